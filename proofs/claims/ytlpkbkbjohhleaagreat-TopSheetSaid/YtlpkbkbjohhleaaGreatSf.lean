/- The library's sorts on a list that the call owns, by the kit's contracts. -/
import Derived.Test.YtlpkbkbjohhleaaGreatNb
import Derived.Test.YtlpkbkbjohhleaaGreatPv
import Derived.Shelf.SlSortCmp.Whole1
import Derived.Shelf.Sort.Plain
import Derived.Shelf.Abstract
import Derived.Shelf.SlSortCmp.NoneTotal
import Derived.Shelf.Slices.In.SortNone
namespace Go.Gv
open Go.RowKit Go.Proofs Go.Shelf Go.Sort
section
variable {P : Program} {ρ : Ren}
theorem sort_heap {α : Type} [Inhabited α] {enc : α → Value} {w : World} {g q : Nat} {d : Array α} {os : Array Obj} {k : Nat} (hk : k < w.heap.size) : (grow (putRow enc (Sort.ahead w q) g 0 d) os).heap[k]? = if g = k then (w.heap[k]?).map (onCells (putCells enc 0 d)) else w.heap[k]? := by
  have h1 : k < (putRow enc (Sort.ahead w q) g 0 d).heap.size := by
    show k < (w.heap.modify g _).size
    rw [Array.size_modify]; exact hk
  rw [heap_grow_old _ _ h1]
  show (w.heap.modify g (onCells (putCells enc 0 d)))[k]? = _
  rw [Array.getElem?_modify]
theorem sort_size {α : Type} [Inhabited α] {enc : α → Value} {w : World} {g q : Nat} {d : Array α} {os : Array Obj} : w.heap.size ≤ (grow (putRow enc (Sort.ahead w q) g 0 d) os).heap.size := by
  rw [size_grow]
  show w.heap.size ≤ (w.heap.modify g _).size + os.size
  rw [Array.size_modify]; omega
theorem flat_int (l : List Int) : l.flatMap (Flat.enc (α := Int)) = l.map (Value.int .i64) := by
  induction l with
  | nil => rfl
  | cons x t ih => rw [List.flatMap_cons, ih]; rfl
theorem sort_mem {α : Type} [Inhabited α] {enc : α → Value} {w : World} {e g cap n q : Nat} {cur : Array Value} {d : Array α} {os : Array Obj} {res : List Int} (hg : w.heap[g]? = some (.cells cur e (0, 0))) (hn : n ≤ cap) (hc : cap ≤ maxLen) (hs : cur.size = cap * 1)
    (hd : d.size = n) (hr : n = res.length) (he : ∀ (i : Nat) (h : i < res.length), enc d[i]! = .int .i64 res[i]) :
    Mem w (ownL e (.slice (some ⟨g, 0, none⟩) n cap) res).D [ownL e (.slice (some ⟨g, 0, none⟩) n cap) res] (grow (putRow enc (Sort.ahead w q) g 0 d) os) := by
  subst hr
  have hlt : g < w.heap.size := (Array.getElem?_eq_some_iff.1 hg).1
  have hw := sort_heap (enc := enc) (q := q) (g := g) (d := d) (os := os) hlt
  rw [if_pos rfl, hg] at hw
  have hw : (grow (putRow enc (Sort.ahead w q) g 0 d) os).heap[g]? = some (.cells (putCells enc 0 d cur) e (0, 0)) := hw
  have own : (ownL e (.slice (some ⟨g, 0, none⟩) res.length cap) res).φ (grow (putRow enc (Sort.ahead w q) g 0 d) os) := by
    refine ⟨flat_len res, .inr ⟨g, cap, putCells enc 0 d cur, rfl, Nat.zero_le _, hw, hn, hc, ?_, ?_⟩⟩
    · unfold putCells; rw [Array.size_mapIdx]; exact hs
    · rw [flat_int]
      show List.take (res.length * 1) (putCells enc 0 d cur).toList = _
      apply List.ext_getElem
      · simp [putCells]; omega
      · intro i h1 h2
        have hi : i < res.length := by simpa using h2
        rw [List.getElem_take, List.getElem_map, ← he i hi]
        simp only [Array.getElem_toList, putCells, Array.getElem_mapIdx, Nat.zero_add, Nat.sub_zero]
        rw [if_pos ⟨Nat.zero_le _, by omega⟩]
  refine ⟨⟨rfl, rfl, rfl, sort_size, fun k hk hx => ?_⟩, ?_, ?_, List.pairwise_singleton _ _⟩
  · rw [sort_heap hk, if_neg]
    intro e1
    exact hx (by subst e1; rfl)
  · intro c hc
    rw [List.mem_singleton.1 hc]; exact own
  · intro c hc k hk
    rw [List.mem_singleton.1 hc] at hk
    exact .inr hk
/-- slices.Sort at []int. -/
theorem sortI_lay (L : Lays.n189 P ρ) (h0 : ∀ (p : Option Addr) (cap : Nat) (w : World), Calls P (ρ.f 189) #[.slice p 0 cap] w fun e w' => e = .returned (.tuple #[]) ∧ w' = w) {e : Nat} {v : Value} {l res : List Int} (h : sortI l = some res) {w : World} (own : (ownL e v l).φ w) :
    CallsR P (ρ.f 189) [v] w (fun u w' => u = .tuple #[] ∧ Mem w (ownL e v l).D [ownL e v res] w') := by
  unfold sortI at h
  split at h
  case isFalse => cases h
  rename_i hbig
  injection h with h
  have hlen : res.length = l.length := by rw [← h]; exact (List.mergeSort_perm _ _).length_eq
  have hown := own
  obtain ⟨hx, hv⟩ := own
  by_cases hl : l = []
  · subst hl
    have hr : res = [] := List.eq_nil_of_length_eq_zero hlen
    subst hr
    rcases hv with ⟨rfl, _⟩ | ⟨g, cap, cur, rfl, _⟩
    · exact (h0 none 0 w).mono fun e' w' ⟨he, hw⟩ => ⟨_, he, rfl, by subst hw; exact Mem.one hown⟩
    · exact (h0 (some ⟨g, 0, none⟩) cap w).mono fun e' w' ⟨he, hw⟩ => ⟨_, he, rfl, by subst hw; exact Mem.one hown⟩
  · rcases hv with ⟨_, hn⟩ | ⟨g, cap, cur, rfl, _, hg, hn, hc, hs, ht⟩
    · exact absurd (List.eq_nil_of_length_eq_zero hn) hl
    · have ht : cur.toList.take (l.length * 1) = l.map (Value.int .i64) := by rw [← flat_int]; exact ht
      have hs : cur.size = cap * 1 := hs
      have hH : Holds (Value.int .i64) w g 0 l.toArray := fun j hj => by
        have hj : j < l.length := by simpa using hj
        have h1 : cur[j]? = some (.int .i64 l[j]) := by
          have := congrArg (fun z => z[j]?) ht
          simp only [List.getElem?_take, List.getElem?_map] at this
          rw [if_pos (by omega), List.getElem?_eq_getElem hj] at this
          simpa using this
        refine ⟨?_, ?_⟩
        · rw [cell_of_row w g (0 + j) cur e (0, 0) hg, Nat.zero_add, h1]
          rw [getElem!_pos _ j (by simpa using hj)]; simp
        · unfold World.frozen?
          rw [hg]; simp
      have hlt : g < w.heap.size := (Array.getElem?_eq_some_iff.1 hg).1
      have := Any.slices_Sort_int L g 0 cap l w hH hlt (by omega)
      refine this.mono fun e' w' ⟨he, q, os, hw⟩ => ⟨_, he, rfl, ?_⟩
      rw [hw, h]
      have h2 : Mem w (ownL e (.slice (some ⟨g, 0, none⟩) l.length cap) res).D [ownL e (.slice (some ⟨g, 0, none⟩) l.length cap) res] (grow (putRow (Value.int .i64) (Sort.ahead w q) g 0 res.toArray) os) :=
        sort_mem hg hn hc hs (by simp [hlen]) hlen.symm (fun i hi => by rw [getElem!_pos _ i (by simpa using hi)]; simp)
      exact h2
theorem attach_at (l : List Int) (j : Nat) (hj : j < l.attach.toArray.size) : (l.attach.toArray[j]).1 = l[j]'(by simpa using hj) := by simp
/-- slices.SortFunc at []int. -/
theorem sortFn_lay (L : SlLaysF.n6 P ρ) (h0 : ∀ (p : Option Addr) (cap : Nat) (fv : Value) (w : World), Calls P (ρ.f 6) #[.slice p 0 cap, fv] w fun e w' => e = .returned (.tuple #[]) ∧ w' = w) {cl : Nat} {cb : Value} (ht : TFn P cl) {cf : Int → Int → Option Int} {e : Nat} {v : Value} {l res : List Int} (h : sortFn cf l = some res) {w : World} (own : (ownL e v l).φ w)
    (hc : ∀ W : World, (∀ g, Old w (ownL e v l).D g → Old W No g ∧ W.heap[g]? = w.heap[g]?) → ∀ x y r, cf x y = some r → CallsR P cl [.int .i64 x, .int .i64 y, cb] W (fun u W' => u = .int .i64 r ∧ ∃ q, W' = W.drewN q)) :
    CallsR P (ρ.f 6) [v, .func (.func cl) #[] #[cb]] w (fun u w' => u = .tuple #[] ∧ Mem w (ownL e v l).D [ownL e v res] w') := by
  have hown := own
  obtain ⟨hx, hv⟩ := own
  cases l with
  | nil =>
    unfold sortFn at h
    injection h with h
    subst h
    rcases hv with ⟨rfl, _⟩ | ⟨g, cap, cur, rfl, _⟩
    · exact (h0 none 0 _ w).mono fun e' w' ⟨he, hw⟩ => ⟨_, he, rfl, by subst hw; exact Mem.one hown⟩
    · exact (h0 (some ⟨g, 0, none⟩) cap _ w).mono fun e' w' ⟨he, hw⟩ => ⟨_, he, rfl, by subst hw; exact Mem.one hown⟩
  | cons a t =>
    letI : Inhabited {x : Int // x ∈ a :: t} := ⟨⟨a, List.mem_cons_self⟩⟩
    rw [sortFn] at h
    split at h
    case isFalse => cases h
    rename_i hcond
    obtain ⟨⟨hs1, hO⟩, hbig⟩ := hcond
    injection h with h
    obtain ⟨d, hd⟩ : ∃ d, d = (a :: t).attach.toArray := ⟨_, rfl⟩
    have hds : d.size = (a :: t).length := by rw [hd]; simp
    rw [← hd] at h
    obtain ⟨d', hd'⟩ : ∃ d', d' = pdq (ltC (cfOn cf (a :: t))) d 0 d.size (Go.Lib.bitLen d.size) true true := ⟨_, rfl⟩
    have hp := pdq_sorts (ltC (cfOn cf (a :: t))) hO d 0 d.size (Go.Lib.bitLen d.size) true true (Nat.zero_le _) (Nat.le_refl _) (Or.inl rfl)
    rw [← hd'] at hp
    have hd1 : d'.size = d.size := hp.1.1
    have h : d'.toList.map (·.1) = res := by rw [hd']; exact h
    have hrl : res.length = d.size := by rw [← h, ← hd1]; simp
    rcases hv with ⟨_, hn⟩ | ⟨g, cap, cur, rfl, _, hg, hn, hcap, hs, htk⟩
    · simp at hn
    have hlt : g < w.heap.size := (Array.getElem?_eq_some_iff.1 hg).1
    have htk : cur.toList.take ((a :: t).length * 1) = (a :: t).map (Value.int .i64) := by rw [← flat_int]; exact htk
    have hs : cur.size = cap * 1 := hs
    have hsub : ∀ (j : Nat) (hj : j < d.size), d[j].1 = (a :: t)[j]'(by omega) := fun j hj => by
      subst hd
      exact attach_at (a :: t) j hj
    have hH : Holds (fun x : {x : Int // x ∈ a :: t} => Value.int .i64 x.1) w g 0 d := fun j hj => by
      have hj' : j < (a :: t).length := by omega
      have h1 : cur[j]? = some (.int .i64 (a :: t)[j]) := by
        have := congrArg (fun z => z[j]?) htk
        simp only [List.getElem?_take, List.getElem?_map] at this
        rw [if_pos (by omega), List.getElem?_eq_getElem hj'] at this
        simpa using this
      refine ⟨?_, ?_⟩
      · rw [cell_of_row w g (0 + j) cur e (0, 0) hg, Nat.zero_add, h1, getElem!_pos d j hj]
        show some (Value.int IntKind.i64 (a :: t)[j]) = some (Value.int IntKind.i64 d[j].1)
        rw [hsub j hj]
      · unfold World.frozen?
        rw [hg]; simp
    have hcmp : CmpLays1 P cl #[cb] (fun x : {x : Int // x ∈ a :: t} => Value.int .i64 x.1) (cfOn cf (a :: t)) g 0 d.size w := fun m os dk _ x y => by
      have hW : ∀ k, Old w (ownL e (.slice (some ⟨g, 0, none⟩) (a :: t).length cap) (a :: t)).D k → Old (sortWorld (fun x : {x : Int // x ∈ a :: t} => Value.int .i64 x.1) w g 0 m dk os) No k ∧ (sortWorld (fun x : {x : Int // x ∈ a :: t} => Value.int .i64 x.1) w g 0 m dk os).heap[k]? = w.heap[k]? := fun k hk => by
        refine ⟨⟨Nat.lt_of_lt_of_le hk.1 sort_size, id⟩, ?_⟩
        show (grow (putRow _ (Sort.ahead w m) g 0 dk) os).heap[k]? = _
        rw [sort_heap hk.1, if_neg]
        intro e1
        exact hk.2 (by subst e1; rfl)
      have hcf : cf x.1 y.1 = some (cfOn cf (a :: t) x y) := by
        unfold cfOn
        have := hs1 x.1 x.2 y.1 y.2
        cases hq : cf x.1 y.1 with
        | none => rw [hq] at this; cases this
        | some r => rfl
      exact Calls.mono (show Calls P cl _ _ _ from hc _ hW x.1 y.1 _ hcf) fun e' w' ⟨u, he, hu, q, hq⟩ => ⟨by rw [he, hu], q, #[], by rw [hq, grow_empty]⟩
    have eg : ∀ args w, (callFunc cl args).run P w = .ok (.enter cl args) w := by
      obtain ⟨fn, c, h1, h2, h3⟩ := ht
      exact enters_of h1 h3 h2
    have hcall := Any.slices_SortFunc_eq L (fun x : {x : Int // x ∈ a :: t} => Value.int .i64 x.1) (fun _ => rfl) (cfOn cf (a :: t)) hO cl #[cb] g 0 cap d w eg hcmp hH hlt (by omega)
    have hv : (Value.slice (some ⟨g, 0, none⟩) (a :: t).length cap) = .slice (some ⟨g, 0, none⟩) d.size cap := by rw [hds]
    rw [hv]
    refine hcall.mono fun e' w' ⟨he, q, os, hw⟩ => ⟨_, he, rfl, ?_⟩
    have hw : w' = grow (putRow (fun x : {x : Int // x ∈ a :: t} => Value.int .i64 x.1) (Sort.ahead w q) g 0 d') os := by rw [hw, hd']; rfl
    rw [hw]
    have h2 : Mem w (ownL e (.slice (some ⟨g, 0, none⟩) d.size cap) res).D [ownL e (.slice (some ⟨g, 0, none⟩) d.size cap) res] (grow (putRow (fun x : {x : Int // x ∈ a :: t} => Value.int .i64 x.1) (Sort.ahead w q) g 0 d') os) :=
      sort_mem hg (by omega) hcap hs hd1 hrl.symm (fun i hi => by
        rw [getElem!_pos d' i (by omega)]
        subst h
        simp)
    exact h2
end
/-- What a sort's number answers. -/
structure SrtF (P : Program) (F : Nat) : Prop where
  ok : ∀ {cl : Nat} {cb : Value}, TFn P cl → ∀ {cf : Int → Int → Option Int} {e : Nat} {v : Value} {l res : List Int}, sortFn cf l = some res → ∀ {w : World}, (ownL e v l).φ w →
    (∀ W : World, (∀ g, Old w (ownL e v l).D g → Old W No g ∧ W.heap[g]? = w.heap[g]?) → ∀ x y r, cf x y = some r → CallsR P cl [.int .i64 x, .int .i64 y, cb] W (fun u W' => u = .int .i64 r ∧ ∃ q, W' = W.drewN q)) →
    CallsR P F [v, .func (.func cl) #[] #[cb]] w (fun u w' => u = .tuple #[] ∧ Mem w (ownL e v l).D [ownL e v res] w')
structure SrtI (P : Program) (F : Nat) : Prop where
  ok : ∀ {e : Nat} {v : Value} {l res : List Int}, sortI l = some res → ∀ {w : World}, (ownL e v l).φ w → CallsR P F [v] w (fun u w' => u = .tuple #[] ∧ Mem w (ownL e v l).D [ownL e v res] w')
theorem sortFn_calls {P : Program} {F cl : Nat} (L : SrtF P F) {cb : Value} (ht : TFn P cl) {cf : Int → Int → Option Int} {e : Nat} {v : Value} {l res : List Int} (h : sortFn cf l = some res) {w : World} (own : (ownL e v l).φ w)
    (hc : ∀ W : World, (∀ g, Old w (ownL e v l).D g → Old W No g ∧ W.heap[g]? = w.heap[g]?) → ∀ x y r, cf x y = some r → CallsR P cl [.int .i64 x, .int .i64 y, cb] W (fun u W' => u = .int .i64 r ∧ ∃ q, W' = W.drewN q)) :
    CallsR P F [v, .func (.func cl) #[] #[cb]] w (fun u w' => u = .tuple #[] ∧ Mem w (ownL e v l).D [ownL e v res] w') := L.ok ht h own hc
theorem sortI_calls {P : Program} {F : Nat} (L : SrtI P F) {e : Nat} {v : Value} {l res : List Int} (h : sortI l = some res) {w : World} (own : (ownL e v l).φ w) : CallsR P F [v] w (fun u w' => u = .tuple #[] ∧ Mem w (ownL e v l).D [ownL e v res] w') := L.ok h own
end Go.Gv
