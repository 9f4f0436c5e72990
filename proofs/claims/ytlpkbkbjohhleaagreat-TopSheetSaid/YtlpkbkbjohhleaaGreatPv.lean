/- The library's sorts, as plain functions, and what they answer. -/
import Derived.Test.YtlpkbkbjohhleaaGreatPu
import Derived.Sort.AssemblyPlain
import Derived.Lib.BitFns
namespace Go.Gv
open Go.Sort
def sortI (l : List Int) : Option (List Int) := if l.length ≤ 1000000000000 then some (l.mergeSort fun x y => decide (x ≤ y)) else none
def ltC {β : Type} (c : β → β → Int) (x y : β) : Bool := decide (c x y < 0)
def cfOn (cf : Int → Int → Option Int) (l : List Int) (x y : {x : Int // x ∈ l}) : Int := (cf x.1 y.1).getD 0
open Classical in
/-- The list in the order of pdqsort, where the order is one. -/
noncomputable def sortFn (cf : Int → Int → Option Int) : List Int → Option (List Int)
  | [] => some []
  | a :: t =>
    haveI : Inhabited {x : Int // x ∈ a :: t} := ⟨⟨a, List.mem_cons_self⟩⟩
    if ((∀ x ∈ a :: t, ∀ y ∈ a :: t, (cf x y).isSome = true) ∧ SWO (ltC (cfOn cf (a :: t)))) ∧ (a :: t).length ≤ 1000000000000 then some ((pdq (ltC (cfOn cf (a :: t))) (a :: t).attach.toArray 0 (a :: t).attach.toArray.size (Go.Lib.bitLen (a :: t).attach.toArray.size) true true).toList.map (·.1)) else none
theorem sortFn_ok {cf : Int → Int → Option Int} (key : Int → Int) (l : List Int) (hlen : l.length ≤ 1000000000000) (h : ∀ x ∈ l, ∀ y ∈ l, ∃ r, cf x y = some r ∧ (r < 0 ↔ key x < key y)) : ∃ l', sortFn cf l = some l' ∧ l'.Perm l ∧ l'.Pairwise fun x y => key x ≤ key y := by
  cases l with
  | nil => exact ⟨[], rfl, List.Perm.refl _, List.Pairwise.nil⟩
  | cons a t =>
    letI : Inhabited {x : Int // x ∈ a :: t} := ⟨⟨a, List.mem_cons_self⟩⟩
    have hlt : ∀ x y : {x : Int // x ∈ a :: t}, ltC (cfOn cf (a :: t)) x y = decide (key x.1 < key y.1) := fun x y => by
      obtain ⟨r, hr, hk⟩ := h x.1 x.2 y.1 y.2
      unfold ltC cfOn
      rw [hr, Option.getD_some]
      by_cases hc : r < 0
      · rw [decide_eq_true hc, decide_eq_true (hk.1 hc)]
      · rw [decide_eq_false hc, decide_eq_false (fun q => hc (hk.2 q))]
    have hO : SWO (ltC (cfOn cf (a :: t))) := ⟨fun x => by rw [hlt]; exact decide_eq_false (by omega), fun x y z h1 h2 => by
        rw [hlt] at *; have h1 := of_decide_eq_true h1; have h2 := of_decide_eq_true h2; exact decide_eq_true (by omega), fun x y z h1 h2 => by
        rw [hlt] at *; have h1 := of_decide_eq_false h1; have h2 := of_decide_eq_false h2; exact decide_eq_false (by omega)⟩
    have hs : ∀ x ∈ a :: t, ∀ y ∈ a :: t, (cf x y).isSome = true := fun x hx y hy => by
      obtain ⟨r, hr, _⟩ := h x hx y hy
      rw [hr]; rfl
    obtain ⟨d', hd⟩ : ∃ d', d' = pdq (ltC (cfOn cf (a :: t))) (a :: t).attach.toArray 0 (a :: t).attach.toArray.size (Go.Lib.bitLen (a :: t).attach.toArray.size) true true := ⟨_, rfl⟩
    have hp := pdq_sorts (ltC (cfOn cf (a :: t))) hO (a :: t).attach.toArray 0 (a :: t).attach.toArray.size (Go.Lib.bitLen (a :: t).attach.toArray.size) true true (Nat.zero_le _) (Nat.le_refl _) (Or.inl rfl)
    rw [← hd] at hp
    obtain ⟨⟨p1, _, p2⟩, p3⟩ := hp
    refine ⟨d'.toList.map (·.1), by rw [hd, sortFn, if_pos (And.intro (And.intro hs hO) hlen)], ?_, ?_⟩
    · rw [Array.extract_size] at p2
      rw [← p1, Array.extract_size] at p2
      have := p2.map (·.1)
      simpa using this
    · rw [List.pairwise_map, List.pairwise_iff_getElem]
      intro i j hi hj hij
      have hi' : i < d'.size := by simpa using hi
      have hj' : j < d'.size := by simpa using hj
      have := p3 i j (Nat.zero_le _) hij (by omega)
      rw [hlt] at this
      have := of_decide_eq_false this
      rw [getElem!_pos d' i hi', getElem!_pos d' j hj'] at this
      simp only [Array.getElem_toList]
      omega
theorem sortI_ok (l : List Int) (h : l.length ≤ 1000000000000) : ∃ l', sortI l = some l' ∧ l'.Perm l := ⟨_, if_pos h, List.mergeSort_perm _ _⟩
end Go.Gv
