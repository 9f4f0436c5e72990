/- Separation: gaps and times of release of arbitrary lists, with their errors. -/
import Derived.Test.YtgabhhciodicoaaPlc
namespace Go.Gv

theorem first_anyP {ρ : Type} (n : Nat) (P : Nat → Prop) (c : Nat → ρ) (f : Int → Option (Int ⊕ (ρ ⊕ Unit)))
    (h : ∀ (i : Nat), i < n → (P i ∧ f (i : Int) = some (.inr (.inl (c i)))) ∨ (¬ P i ∧ f (i : Int) = some (.inl ((i + 1 : Nat) : Int))))
    (he : f (n : Int) = some (.inr (.inr ()))) (N : Nat) (hN : n < N) :
    (∃ i, iterN f N 0 = some (.inl (c i)) ∧ i < n ∧ P i ∧ ∀ j, j < i → ¬ P j) ∨ (iterN f N 0 = some (.inr ()) ∧ ∀ i, i < n → ¬ P i) := by
  obtain ⟨q, hq, hQ⟩ := iterN_run (f := f) (I := fun s => ∃ i : Nat, s = i ∧ i ≤ n ∧ ∀ (j : Nat), j < i → ¬ P j)
    (Q := fun q => (∃ i, q = .inl (c i) ∧ i < n ∧ P i ∧ ∀ j, j < i → ¬ P j) ∨ (q = .inr () ∧ ∀ i, i < n → ¬ P i)) (fun s => n - s.toNat) (by
    rintro s ⟨i, rfl, hi, hall⟩
    by_cases hc : i < n
    · rcases h i hc with ⟨hp, hf⟩ | ⟨hp, hf⟩
      · exact .inr ⟨_, hf, .inl ⟨i, rfl, hc, hp, hall⟩⟩
      · exact .inl ⟨_, hf, ⟨i + 1, rfl, hc, fun j hji => by
          by_cases e : j = i
          · subst e; exact hp
          · exact hall j (by omega)⟩, by omega⟩
    · have : i = n := by omega
      subst this
      exact .inr ⟨_, he, .inr ⟨rfl, fun j hj => hall j hj⟩⟩) N 0 ⟨0, rfl, Nat.zero_le _, fun _ h => absurd h (Nat.not_lt_zero _)⟩ (by simp; omega)
  rcases hQ with ⟨i, rfl, h⟩ | ⟨rfl, h⟩
  · exact .inl ⟨i, hq, h⟩
  · exact .inr ⟨hq, h⟩
theorem idx_getD {α : Type} {l : List α} {i : Nat} (d : α) (h : i < l.length) : idx l (i : Int) = some (l.getD i d) := by
  rw [idx_nat h, List.getD_eq_getElem?_getD, List.getElem?_eq_getElem h]; rfl
theorem getD_mem {α : Type} {l : List α} {i : Nat} {d : α} (h : i < l.length) : l.getD i d ∈ l := by
  rw [List.getD_eq_getElem?_getD, List.getElem?_eq_getElem h]
  exact List.getElem_mem _

/-! one gap -/
def gp (a b : List T_Span) (th : Int) : Int × Int := (r23_gap 200 a b th).getD (0, 0)
theorem gp_spec (N : Nat) (hN : 200 ≤ N) {a b : List T_Span} (ga : Good a) (gb : Good b) {th : Int} (h0 : 0 ≤ th) (h1 : th ≤ 1000000000) :
    r23_gap N a b th = some (gp a b th) ∧ separation_gap N a b th = some (gp a b th) ∧ 0 ≤ (gp a b th).1 ∧ (gp a b th).1 ≤ 2000000000 ∧ ((gp a b th).2 = 0 ∨ (gp a b th).2 = 24) := by
  rcases rgap_spec 200 (Nat.le_refl _) ga gb h0 h1 with ⟨e, hs⟩ | ⟨g, e, hg, hs⟩
  · have eg : gp a b th = (0, 24) := by unfold gp; rw [e]; rfl
    rw [eg]
    refine ⟨?_, ?_, by simp, by simp, .inr rfl⟩
    · rcases rgap_spec N hN ga gb h0 h1 with ⟨e', _⟩ | ⟨g', _, _, hs'⟩
      · exact e'
      · exact absurd hs hs'
    · rcases sgap_spec N hN ga gb h0 h1 with ⟨e', _⟩ | ⟨g', _, _, hs'⟩
      · exact e'
      · exact absurd hs hs'
  · have eg : gp a b th = (g, 0) := by unfold gp; rw [e]; rfl
    rw [eg]
    refine ⟨?_, ?_, hg.pos, hg.le ga gb h0 h1, .inl rfl⟩
    · rcases rgap_spec N hN ga gb h0 h1 with ⟨_, hs'⟩ | ⟨g', e', hg', _⟩
      · exact absurd hs' hs
      · rw [e', hg'.unique hg]
    · rcases sgap_spec N hN ga gb h0 h1 with ⟨_, hs'⟩ | ⟨g', e', hg', _⟩
      · exact absurd hs' hs
      · rw [e', hg'.unique hg]

/-! soundness -/
def thOk (th : Int) : Bool := decide (0 ≤ th) && decide (th ≤ 1000000000)
theorem any_not_all {α : Type} (l : List α) (p : α → Bool) : l.any (fun x => !p x) = !l.all p := by
  induction l with
  | nil => rfl
  | cons x l ih => simp [ih, Bool.not_and]
def soundB (l : List (List T_Span)) (th : Int) : Bool := l.all goodB && thOk th
theorem sound_all (N : Nat) (hN : 200 ≤ N) (l : List (List T_Span)) (hl : l.length ≤ 150) (th : Int) : separation_sound N l th = some (soundB l th) := by
  have h := first_any l (fun x => !goodB x) false (fun s => separation_sound_l1 N l s) (fun i h hp => by
    unfold separation_sound_l1
    exact oit (decide_eq_true (by omega)) (obi (idx_nat h) (obi (svalid_eq N hN _) (oit hp rfl)))) (fun i h hp => by
    unfold separation_sound_l1
    exact oit (decide_eq_true (by omega)) (obi (idx_nat h) (obi (svalid_eq N hN _) (oif hp (obi (inc_nat (by omega)) rfl))))) (by
    unfold separation_sound_l1
    exact oif (decide_eq_false (by omega)) rfl) N (by omega)
  rw [any_not_all] at h
  unfold separation_sound soundB
  cases hb : l.all goodB with
  | true => rw [hb] at h; exact obi h rfl
  | false => rw [hb] at h; exact obi h rfl
theorem rlists_all (N : Nat) (hN : 200 ≤ N) (l : List (List T_Span)) (hl : l.length ≤ 96) (th : Int) : r23_Lists N l th = some (bif soundB l th then 0 else 1) := by
  obtain ⟨q, hq, rfl⟩ := iterN_run (f := fun s : Bool × Int => r23_Lists_l1 N l s.1 s.2) (I := fun s => ∃ i : Nat, s = (thOk th && (l.take i).all goodB, (i : Int)) ∧ i ≤ l.length) (Q := fun q => q = (thOk th && l.all goodB)) (fun s => l.length - s.2.toNat) (by
    rintro s ⟨i, rfl, hi⟩
    simp only
    unfold r23_Lists_l1
    by_cases h : i < l.length
    · have htk : l.take (i + 1) = l.take i ++ [l[i]] := List.take_succ_eq_append_getElem h
      have hall : (l.take (i + 1)).all goodB = ((l.take i).all goodB && goodB l[i]) := by rw [htk, List.all_append]; simp only [List.all_cons, List.all_nil, Bool.and_true]
      cases hb : (thOk th && (l.take i).all goodB) with
      | true =>
        refine .inl ⟨(goodB l[i], ((i + 1 : Nat) : Int)), oit (decide_eq_true (by omega)) (obi (gO_T rfl (idx_nat h)) (obi (gO_T rfl (rvalid_eq N hN _)) (obi (inc_nat (by omega)) rfl))), ⟨i + 1, ?_, h⟩, by simp only; omega⟩
        rw [hall, ← Bool.and_assoc, hb]; rfl
      | false =>
        refine .inl ⟨(false, ((i + 1 : Nat) : Int)), oit (decide_eq_true (by omega)) (obi (gO_F rfl) (obi (gO_F rfl) (obi (inc_nat (by omega)) rfl))), ⟨i + 1, ?_, h⟩, by simp only; omega⟩
        rw [hall, ← Bool.and_assoc, hb]; rfl
    · have : i = l.length := by omega
      subst this
      exact .inr ⟨_, oif (decide_eq_false (by omega)) rfl, by rw [List.take_of_length_le (Nat.le_refl _)]⟩) N (thOk th, 0) ⟨0, by simp, Nat.zero_le _⟩ (by simp only; omega)
  unfold r23_Lists soundB
  refine oif (decide_eq_false (by omega)) (obi hq ?_)
  rw [Bool.and_comm]
  cases (l.all goodB && thOk th) <;> rfl
theorem sound_good {l : List (List T_Span)} {th : Int} (h : soundB l th = true) : (∀ i, i < l.length → Good (l.getD i [])) ∧ 0 ≤ th ∧ th ≤ 1000000000 := by
  simp only [soundB, thOk, Bool.and_eq_true, decide_eq_true_eq, List.all_eq_true] at h
  exact ⟨fun i hi => goodB_iff.1 (h.1 _ (getD_mem hi)), h.2⟩

/-! all gaps -/
section
variable (l : List (List T_Span)) (th : Int)
def gq (j k : Nat) : Int × Int := gp (l.getD j []) (l.getD k []) th
def SlowRow (k : Nat) : Prop := ∃ j, j < k ∧ (gq l th j k).2 ≠ 0
def rowG (k : Nat) : List Int := (List.range k).map fun j => (gq l th j k).1
def matG (m : Nat) : List (List Int) := (List.range m).map (rowG l th)
def partG (k : Nat) : List (List Int) := (List.range l.length).map fun m => if m < k then rowG l th m else []
/-- the greatest time of the first j rows -/
def tmx (R : List Int) (k : Nat) : Nat → Int
  | 0 => 0
  | j + 1 => max (tmx R k j) (R.getD j 0 + (gq l th j k).1)
def tm : Nat → Option (List Int)
  | 0 => some []
  | k + 1 => match tm k with
    | none => none
    | some R => if 1000000000 < tmx l th R k k then none else some (R ++ [tmx l th R k k])
end
variable {l : List (List T_Span)} {th : Int}
structure Snd (l : List (List T_Span)) (th : Int) : Prop where
  len : l.length ≤ 96
  good : ∀ i, i < l.length → Good (l.getD i [])
  t0 : 0 ≤ th
  t1 : th ≤ 1000000000
theorem Snd.gq (s : Snd l th) (N : Nat) (hN : 200 ≤ N) {j k : Nat} (hj : j < l.length) (hk : k < l.length) : r23_gap N (l.getD j []) (l.getD k []) th = some (gq l th j k) ∧ separation_gap N (l.getD j []) (l.getD k []) th = some (gq l th j k) ∧ 0 ≤ (gq l th j k).1 ∧ (gq l th j k).1 ≤ 2000000000 ∧ ((gq l th j k).2 = 0 ∨ (gq l th j k).2 = 24) := gp_spec N hN (s.good j hj) (s.good k hk) s.t0 s.t1
theorem rowG_len (k : Nat) : (rowG l th k).length = k := by simp [rowG]
theorem rowG_get {j k : Nat} (h : j < k) : (rowG l th k).getD j 0 = (gq l th j k).1 := by
  rw [List.getD_eq_getElem?_getD]; simp [rowG, h]
theorem rowG_succ {k j : Nat} (h : j < k) : (rowG l th k).take (j + 1) = (rowG l th k).take j ++ [(gq l th j k).1] := by
  rw [List.take_succ_eq_append_getElem (by rw [rowG_len]; exact h)]
  simp [rowG]
theorem matG_len (m : Nat) : (matG l th m).length = m := by simp [matG]
theorem matG_get {m k : Nat} (h : k < m) : (matG l th m).getD k [] = rowG l th k := by
  rw [List.getD_eq_getElem?_getD]; simp [matG, h]
theorem partG_len (k : Nat) : (partG l th k).length = l.length := by simp [partG]
theorem partG_set {k : Nat} : (partG l th k).set k (rowG l th k) = partG l th (k + 1) := by
  apply List.ext_getElem?
  intro m
  rw [List.getElem?_set]
  by_cases hm : k = m
  · subst hm
    by_cases hk : k < l.length
    · simp [partG, hk]
    · simp [partG, hk]
  · rw [if_neg hm]
    by_cases hk : m < l.length
    · have : (m < k + 1) ↔ (m < k) := by omega
      simp [partG, hk, this]
    · simp [partG, hk]
theorem partG_take {k : Nat} (hk : k ≤ l.length) (r : List Int) : (((partG l th k).set k r).take k) = matG l th k := by
  apply List.ext_getElem?
  intro m
  rw [List.getElem?_take]
  by_cases hm : m < k
  · rw [if_pos hm, List.getElem?_set, if_neg (by omega)]
    simp [partG, matG, hm, show m < l.length by omega]
  · rw [if_neg hm]; simp [matG, hm]

theorem gaps_spec (s : Snd l th) (hB : soundB l th = true) (N : Nat) (hN : 200 ≤ N) : (separation_gaps N l th = some (matG l th l.length, 0) ∧ ∀ k, k < l.length → ¬ SlowRow l th k) ∨ ∃ m, m < l.length ∧ separation_gaps N l th = some (matG l th m, 24) ∧ SlowRow l th m ∧ ∀ k, k < m → ¬ SlowRow l th k := by
  have hl := s.len
  have inner : ∀ (k : Nat) (hk : k < l.length), (iterN (fun s : Int × List (List Int) => separation_gaps_l4 N l th (k : Int) s.1 s.2) N (0, partG l th k) = some (.inr (partG l th (k + 1))) ∧ ¬ SlowRow l th k) ∨ (iterN (fun s : Int × List (List Int) => separation_gaps_l4 N l th (k : Int) s.1 s.2) N (0, partG l th k) = some (.inl (matG l th k, 24)) ∧ SlowRow l th k) := fun k hk => by
    obtain ⟨q, hq, hQ⟩ := iterN_run (f := fun s : Int × List (List Int) => separation_gaps_l4 N l th (k : Int) s.1 s.2)
      (I := fun s => ∃ j : Nat, s = ((j : Int), (partG l th k).set k ((rowG l th k).take j)) ∧ j ≤ k ∧ ∀ m, m < j → (gq l th m k).2 = 0) (Q := fun q => (q = .inr (partG l th (k + 1)) ∧ ¬ SlowRow l th k) ∨ (q = .inl (matG l th k, 24) ∧ SlowRow l th k)) (fun s => k - s.1.toNat) (by
      rintro s' ⟨j, rfl, hj, hz⟩
      simp only
      unfold separation_gaps_l4
      have hlen : ((partG l th k).set k ((rowG l th k).take j)).length = l.length := by simp [partG_len]
      have hx : idx ((partG l th k).set k ((rowG l th k).take j)) (k : Int) = some ((rowG l th k).take j) := by rw [idx_nat (by omega), List.getElem_set_self]
      by_cases h : j < k
      · have hjl : j < l.length := by omega
        obtain ⟨_, hgp, _, _, he⟩ := s.gq N hN hjl hk
        have hrl : ((rowG l th k).take j).length = j := by rw [List.length_take, rowG_len]; omega
        by_cases h0 : (gq l th j k).2 = 0
        · refine .inl ⟨(((j + 1 : Nat) : Int), (partG l th k).set k ((rowG l th k).take (j + 1))), oit (decide_eq_true (by omega)) (obi (idx_getD [] hjl) (obi (idx_getD [] hk) (obi hgp (oif (bnotIf (decide_eq_true h0)) (obi hx (obi (app_ok (by rw [hrl]; simp; omega) (by rw [hrl]; simp; omega)) (obi hx (obi (inc_nat (by omega)) ?_)))))))), ⟨j + 1, rfl, h, fun m hm => ?_⟩, by simp only; omega⟩
          · rw [Int.toNat_natCast, List.set_set, rowG_succ h]
          · by_cases e : m = j
            · subst e; exact h0
            · exact hz m (by omega)
        · have h24 : (gq l th j k).2 = 24 := by omega
          have hsl : slc ((partG l th k).set k ((rowG l th k).take j)) 0 (k : Int) = some (matG l th k) := by
            have := slc_nat (l := (partG l th k).set k ((rowG l th k).take j)) (a := 0) (b := k) (Nat.zero_le _) (by omega)
            rw [partG_take (by omega)] at this
            exact this
          exact .inr ⟨_, oit (decide_eq_true (by omega)) (obi (idx_getD [] hjl) (obi (idx_getD [] hk) (obi hgp (oit (bnotIt (decide_eq_false h0)) (obi hsl rfl))))), .inr ⟨by rw [h24], j, h, h0⟩⟩
      · have : j = k := by omega
        subst this
        refine .inr ⟨_, oif (decide_eq_false (by omega)) rfl, .inl ⟨?_, fun ⟨m, hm, hne⟩ => hne (hz m hm)⟩⟩
        rw [List.take_of_length_le (by rw [rowG_len]; exact Nat.le_refl _), partG_set]) N (0, partG l th k) ⟨0, by
          have : (partG l th k).set k [] = partG l th k := by
            apply List.ext_getElem?
            intro m
            rw [List.getElem?_set]
            split
            · rename_i hm; subst hm; simp [partG, hk]
            · rfl
          rw [List.take_zero, this]; rfl, Nat.zero_le _, fun m h => absurd h (Nat.not_lt_zero _)⟩ (by simp only; omega)
    rcases hQ with ⟨rfl, h⟩ | ⟨rfl, h⟩
    · exact .inl ⟨hq, h⟩
    · exact .inr ⟨hq, h⟩
  obtain ⟨q, hq, hQ⟩ := iterN_run (f := fun s : Int × List (List Int) => separation_gaps_l3 N l th s.1 s.2) (I := fun s => ∃ k : Nat, s = ((k : Int), partG l th k) ∧ k ≤ l.length ∧ ∀ m, m < k → ¬ SlowRow l th m)
    (Q := fun q => (q = .inr (matG l th l.length) ∧ ∀ k, k < l.length → ¬ SlowRow l th k) ∨ ∃ m, m < l.length ∧ q = .inl (matG l th m, 24) ∧ SlowRow l th m ∧ ∀ k, k < m → ¬ SlowRow l th k) (fun s => l.length - s.1.toNat) (by
    rintro s' ⟨k, rfl, hk, hno⟩
    simp only
    unfold separation_gaps_l3
    by_cases h : k < l.length
    · rcases inner k h with ⟨e, hs⟩ | ⟨e, hs⟩
      · exact .inl ⟨_, oit (decide_eq_true (by omega)) (obi e (obi (inc_nat (by omega)) rfl)), ⟨k + 1, rfl, h, fun m hm => by
          by_cases e : m = k
          · subst e; exact hs
          · exact hno m (by omega)⟩, by simp only; omega⟩
      · exact .inr ⟨_, oit (decide_eq_true (by omega)) (obi e rfl), .inr ⟨k, h, rfl, hs, hno⟩⟩
    · have : k = l.length := by omega
      subst this
      refine .inr ⟨_, oif (decide_eq_false (by omega)) rfl, .inl ⟨?_, hno⟩⟩
      congr 1
      apply List.map_congr_left
      intro m hm
      rw [if_pos (List.mem_range.1 hm)]) N (0, partG l th 0) ⟨0, rfl, Nat.zero_le _, fun m h => absurd h (Nat.not_lt_zero _)⟩ (by simp only; omega)
  have hmk : mkL 24 (l.length : Int) ([] : List Int) = some (partG l th 0) := by
    unfold mkL
    rw [if_pos (by omega), Int.toNat_natCast]
    congr 1
    apply List.ext_getElem?
    intro m
    by_cases hm : m < l.length
    · simp [partG, hm]
    · simp [partG, hm]
  have hsd := sound_all N hN l (by omega) th
  rw [hB] at hsd
  unfold separation_gaps
  rcases hQ with ⟨rfl, h⟩ | ⟨m, hm, rfl, h⟩
  · exact .inl ⟨oif (decide_eq_false (by omega)) (obi hsd (oif rfl (obi hmk (obi hq rfl)))), h⟩
  · exact .inr ⟨m, hm, oif (decide_eq_false (by omega)) (obi hsd (oif rfl (obi hmk (obi hq rfl)))), h⟩

/-! times -/
theorem tm_len : ∀ {k : Nat} {R : List Int}, tm l th k = some R → R.length = k
  | 0, R, h => by simp only [tm] at h; cases h; rfl
  | k + 1, R, h => by
    simp only [tm] at h
    split at h
    · cases h
    · rename_i R' hR'
      split at h
      · cases h
      · cases h
        simp [tm_len hR']
theorem tmx_app {R : List Int} {x : Int} {k : Nat} : ∀ {j : Nat}, j ≤ R.length → tmx l th (R ++ [x]) k j = tmx l th R k j
  | 0, _ => rfl
  | j + 1, h => by
    simp only [tmx]
    rw [tmx_app (by omega), List.getD_eq_getElem?_getD, List.getD_eq_getElem?_getD, List.getElem?_append_left (by omega)]
theorem tmx_bound (s : Snd l th) {R : List Int} (hR : ∀ x ∈ R, 0 ≤ x ∧ x ≤ 1000000000) {k : Nat} (hk : k < l.length) : ∀ {j : Nat}, j ≤ k → j ≤ R.length → 0 ≤ tmx l th R k j ∧ tmx l th R k j ≤ 3000000000
  | 0, _, _ => by simp [tmx]
  | j + 1, h, h2 => by
    have h3 := tmx_bound s hR hk (j := j) (by omega) (by omega)
    have h4 := s.gq 200 (Nat.le_refl _) (j := j) (by omega) hk
    have h5 := hR _ (getD_mem (i := j) (d := 0) (by omega))
    simp only [tmx]
    omega
theorem tm_range (s : Snd l th) : ∀ {k : Nat} {R : List Int}, k ≤ l.length → tm l th k = some R → (∀ x ∈ R, 0 ≤ x ∧ x ≤ 1000000000) ∧ ∀ m, m < k → R.getD m 0 = tmx l th R m m
  | 0, R, _, h => by simp only [tm] at h; cases h; exact ⟨by simp, fun m h => absurd h (Nat.not_lt_zero _)⟩
  | k + 1, R, hk, h => by
    simp only [tm] at h
    split at h
    · cases h
    · rename_i R' hR'
      split at h
      · cases h
      · rename_i hle
        cases h
        obtain ⟨h1, h2⟩ := tm_range s (by omega) hR'
        have hl := tm_len hR'
        have hb := tmx_bound s h1 (k := k) (by omega) (j := k) (Nat.le_refl _) (by omega)
        refine ⟨fun x hx => ?_, fun m hm => ?_⟩
        · rcases List.mem_append.1 hx with hx | hx
          · exact h1 x hx
          · have := List.mem_singleton.1 hx; subst this; omega
        · rw [tmx_app (by omega)]
          by_cases e : m < k
          · rw [List.getD_eq_getElem?_getD, List.getElem?_append_left (by omega), ← List.getD_eq_getElem?_getD]
            exact h2 m e
          · obtain rfl : m = k := by omega
            rw [List.getD_eq_getElem?_getD, List.getElem?_append_right (by omega), hl]; simp
theorem tm_none {k m : Nat} (h : tm l th k = none) (hm : k ≤ m) : tm l th m = none := by
  induction m with
  | zero => obtain rfl : k = 0 := by omega
            exact h
  | succ m ih =>
    by_cases e : k = m + 1
    · subst e; exact h
    · simp only [tm, ih (by omega)]
theorem tinner (s : Snd l th) (N : Nat) (hN : 200 ≤ N) {k : Nat} {R : List Int} (hk : k < l.length) (hR : R.length = k) (hb : ∀ x ∈ R, 0 ≤ x ∧ x ≤ 1000000000) : iterN (fun s : Int × Int => separation_times_l5 N R (rowG l th k) s.1 s.2) N (0, 0) = some (tmx l th R k k) := by
  have hl := s.len
  obtain ⟨q, hq, rfl⟩ := iterN_run (f := fun s : Int × Int => separation_times_l5 N R (rowG l th k) s.1 s.2) (I := fun s => ∃ j : Nat, s = (tmx l th R k j, (j : Int)) ∧ j ≤ k) (Q := fun q => q = tmx l th R k k) (fun s => k - s.2.toNat) (by
    rintro s' ⟨j, rfl, hj⟩
    simp only
    unfold separation_times_l5
    have hrl := rowG_len (l := l) (th := th) k
    by_cases h : j < k
    · have h4 := s.gq 200 (Nat.le_refl _) (j := j) (by omega) hk
      have h5 := hb _ (getD_mem (i := j) (d := 0) (by omega))
      have hx : idx (rowG l th k) (j : Int) = some (gq l th j k).1 := by rw [idx_getD 0 (by omega), rowG_get h]
      exact .inl ⟨(tmx l th R k (j + 1), ((j + 1 : Nat) : Int)), oit (decide_eq_true (by omega)) (obi hx (obi (idx_getD 0 (by omega)) (obi (in64_ok (by omega)) (obi (inc_nat (by omega)) rfl)))), ⟨j + 1, rfl, h⟩, by simp only; omega⟩
    · obtain rfl : j = k := by omega
      exact .inr ⟨_, oif (decide_eq_false (by omega)) rfl, rfl⟩) N (0, 0) ⟨0, rfl, Nat.zero_le _⟩ (by simp only; omega)
  exact hq
theorem times_spec (s : Snd l th) (N : Nat) (hN : 200 ≤ N) {m : Nat} (hm : m ≤ l.length) : separation_times N (matG l th m) = some (match tm l th m with | some R => (R, 0) | none => ([], 4)) := by
  have hl := s.len
  obtain ⟨q, hq, hQ⟩ := iterN_run (f := fun s : Int × List Int => separation_times_l4 N (matG l th m) s.1 s.2)
    (I := fun s => ∃ k : Nat, s.1 = k ∧ k ≤ m ∧ tm l th k = some s.2)
    (Q := fun q => (q = .inl ([], 4) ∧ tm l th m = none) ∨ ∃ R, q = .inr R ∧ tm l th m = some R) (fun s => m - s.1.toNat) (by
    rintro ⟨i, R⟩ ⟨k, rfl, hk, ht⟩
    simp only at ht ⊢
    unfold separation_times_l4
    have hml := matG_len (l := l) (th := th) m
    have hRl := tm_len ht
    by_cases h : k < m
    · have hin := tinner s N hN (k := k) (R := R) (by omega) hRl (tm_range s (by omega) ht).1
      have hx : idx (matG l th m) (k : Int) = some (rowG l th k) := by rw [idx_getD [] (by omega), matG_get h]
      by_cases ho : 1000000000 < tmx l th R k k
      · refine .inr ⟨_, oit (decide_eq_true (by omega)) (obi hx (obi hin (oit (decide_eq_true ho) rfl))), .inl ⟨rfl, tm_none (k := k + 1) ?_ h⟩⟩
        simp only [tm, ht]
        rw [if_pos ho]
      · refine .inl ⟨(((k + 1 : Nat) : Int), R ++ [tmx l th R k k]), oit (decide_eq_true (by omega)) (obi hx (obi hin (oif (decide_eq_false ho) (obi (app_ok (by simp; omega) (by simp; omega)) (obi (inc_nat (by omega)) rfl))))), ⟨k + 1, rfl, h, ?_⟩, by simp only; omega⟩
        simp only [tm, ht]
        rw [if_neg ho]
    · obtain rfl : k = m := by omega
      exact .inr ⟨_, oif (decide_eq_false (by omega)) rfl, .inr ⟨R, rfl, ht⟩⟩) N (0, []) ⟨0, rfl, Nat.zero_le _, rfl⟩ (by simp only; omega)
  unfold separation_times
  rcases hQ with ⟨rfl, h⟩ | ⟨R, rfl, h⟩
  · rw [h]; exact obi hq rfl
  · rw [h]; exact obi hq rfl
end Go.Gv
