/- Arguments whose length the form bounds. -/
import Derived.Test.YtpelfidmcpcmjaaLw
import Derived.SizedLaws
namespace Go.Gv
open Go.ChangeShapes Go.WideShapes Go.ChangeAt Go.RowKit Go.Deep Go.Joins
section
variable {H : Type} {enc : TypeId × Value → H} {P : Program} {w : World} {r : Reach} {base t e : Nat} {v : Value} {d : DataW H} {p : List MemPlace}

/-- What an argument's data say of a list's length. -/
def LenOf {H : Type} (d : DataW H) (n : Nat) : Prop := (d = .nil ∧ n = 0) ∨ ∃ es sp : List (DataW H), d = .slice es sp ∧ n = es.length
/-- A []int argument, with its length. -/
theorem int_list2 (hT : P.underlying t = some (.slice e)) (hE : P.underlying e = some (.int .i64)) (hC : P.cellsOf e = 1) (hv : Value.okWide P w r base t v)
    (h : DataW.Trod enc P w 0 (fun _ => true) true t v d p) : ∃ l : List Int, Sl (Old w No) w v l ∧ (∀ x ∈ l, (Lit.int .i64 x).wf = true) ∧ LenOf d l.length := by
  have h' := h
  obtain ⟨l, hs, hw⟩ := int_list hT hE hC hv h'
  obtain ⟨a0, len, cap, rfl⟩ := okWide_slice hT hv
  obtain ⟨fuel, hf⟩ := h
  have hlen : l.length = len := by
    obtain ⟨A, c, hv⟩ := hs.val
    injection hv with _ h2 _
    exact h2.symm
  rcases open_ints hT hE hC hf with ⟨hcs, hx⟩ | ⟨a, len', cap', zs, hcs, _, hl, hm, hz, hx, hcell, hwz⟩
  · simp [Value.cells] at hcs
    obtain ⟨rfl, rfl, rfl⟩ := hcs
    exact ⟨l, hs, hw, .inl ⟨congrArg Prod.fst hx, hlen⟩⟩
  · simp [Value.cells] at hcs
    obtain ⟨rfl, rfl, rfl⟩ := hcs
    simp only [if_true] at hz
    refine ⟨l, hs, hw, .inr ⟨_, _, congrArg Prod.fst hx, ?_⟩⟩
    rw [hlen]
    simp [lits]; omega
theorem len_of {ts : List TypeId} {ds : List (DataW H)} (h : (DataW.weightsEach P ts ds).all (· ≤ reachBytes) = true) (j : Nat) {n : Nat} (ht : ts[j]? = some t) (hd : ds[j]? = some d) (hu : P.underlying t = some (.slice e)) (hb : P.bytesOf e = 8) (hl : LenOf d n) : n ≤ 17592186044416 := by
  rcases hl with ⟨_, rfl⟩ | ⟨es, sp, rfl, rfl⟩
  · omega
  · have := sized_slice h ht hd hu
    rw [hb] at this
    have h2 := reachBytes_lt
    omega
end
/-- Lists of lists. -/
theorem openT_list {P : Program} {t e : TypeId} {α : Type} [Rep α] [Inhabited α] {ok : α → Prop} (h : OpenT P e α ok) (hT : P.underlying t = some (.slice e)) (hC : P.cellsOf t = 1) : OpenT P t (List α) (fun l => ∀ x ∈ l, ok x) :=
  ⟨fun h' => by
    obtain ⟨v, l, rfl, hl, ho⟩ := h.cells hT h'
    exact ⟨l, ⟨v, rfl, hl⟩, ho⟩, hC, Nat.one_pos⟩
end Go.Gv
