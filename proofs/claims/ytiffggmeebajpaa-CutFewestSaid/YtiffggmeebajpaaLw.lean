/- From a call that returns true to the row: how arguments read. -/
import Derived.Test.YtiffggmeebajpaaBa
import Derived.ProofKit
import Derived.OpenShut
import Derived.Deep.Slices
import Derived.Deep.Fields
import Derived.Lib.SmallJoins
namespace Go.Gv
open Go.ChangeShapes Go.WideShapes Go.ChangeAt Go.RowKit Go.Deep Go.Joins

theorem below_of_mem {w w' : World} {L : List Chunk} (h : Mem w No L w') : Below w.heap.size w w' := ⟨h.chg.os, h.chg.tape, h.chg.output, h.chg.size, fun k hk => h.chg.kept k hk id⟩

section
variable {H : Type} {enc : TypeId × Value → H} {P : Program}
theorem post_below {f : Func} {s : ChangeSpec} {apart fresh handsOn : Bool} {W W' : World} {args : Array Value} {v : Value} {ds gs : List (DataW H)} {before pa pv : List MemPlace}
    (hW : DataW.Whole enc P f.params.toList s.vars apart W args.toList ds gs before)
    (hres : ∀ (b : Nat) (sp : Nat → Bool) (hd : Bool), DataW.TrodAll enc P W' b sp hd f.resultTypes.toList (v.resultList f.resultTypes.size) (s.fn H (ds ++ gs)).results [])
    (hargs : DataW.TrodAll enc P W' 0 (fun b => decide (b < W.heap.size)) true f.params.toList args.toList (s.fn H (ds ++ gs)).args pa)
    (hvars : DataW.TrodVars enc P W' (fun b => decide (b < W.heap.size)) s.vars (s.fn H (ds ++ gs)).vars pv)
    (hps : before = pa ++ pv) (hb : Below W.heap.size W W') : s.post enc P f apart fresh handsOn false W args v W' := by
  refine ⟨ds, gs, before, [], pa, pv, hW, hres _ _ _, hargs, hvars, World.keptBut_mono (fun p hp => ⟨hp, ?_⟩) (hb.frame (· ∈ before)), fun h => by cases h⟩
  rw [hps, List.mem_append] at hp
  exact Or.inr hp
end

theorem sl_of_cells {α : Type} [Flat α] {w : World} {a : Addr} {len cap : Nat} {l : List α} (hl : l.length = len) (hc : len ≤ cap)
    (hcell : ∀ (i : Nat) (x : α), l[i]? = some x → ∀ (j : Nat) (u : Value), (Flat.enc x)[j]? = some u → w.cell? (a.add (i * Flat.sz α + j)) = some u) : Sl (Old w No) w (.slice (some a) len cap) l := by
  have hsp : l ≠ [] → a.spot = none := fun hne => by
    obtain ⟨x, r, rfl⟩ := List.exists_cons_of_ne_nil hne
    have hp : 0 < (Flat.enc x).length := by rw [Flat.len]; exact Flat.pos
    have := hcell 0 x rfl 0 _ (List.getElem?_eq_getElem hp)
    simp only [Nat.zero_mul, Nat.zero_add] at this
    have ha : a.add 0 = a := by simp [Addr.add]
    rw [ha] at this
    unfold World.cell? at this
    split at this
    · split at this
      · cases this
      · rename_i hs; simpa using hs
    · cases this
  refine ⟨some a, cap, by rw [hl], by omega, fun hne => ?_, fun i x hx => ?_⟩
  · have := hsp hne
    exact ⟨a.block, a.off, by cases a; simp_all⟩
  · have hne : l ≠ [] := by rintro rfl; simp at hx
    have hs := hsp hne
    obtain ⟨b, o, sp⟩ := a
    simp only at hs
    subst hs
    have hadd : ∀ k, (⟨b, o, none⟩ : Addr).add k = ⟨b, o + k, none⟩ := fun k => by unfold Addr.add; split <;> simp_all
    have hp : 0 < (Flat.enc x).length := by rw [Flat.len]; exact Flat.pos
    have h0 := hcell i x hx 0 _ (List.getElem?_eq_getElem hp)
    refine ⟨⟨?_, id⟩, _, rfl, fun j u hu => ?_⟩
    · have := World.block_lt_of_cell? w _ h0
      rw [hadd] at this
      exact this
    · have := hcell i x hx j u hu
      rw [hadd] at this
      rw [← this]
      congr 2
      show o + i * Flat.sz α + j = _
      omega

section
variable {H : Type} {enc : TypeId × Value → H} {P : Program} {w : World} {r : Reach} {base t e : Nat} {v : Value} {d : DataW H} {p : List MemPlace}

/-- A []int argument. -/
theorem int_list (hT : P.underlying t = some (.slice e)) (hE : P.underlying e = some (.int .i64)) (hC : P.cellsOf e = 1) (hv : Value.okWide P w r base t v)
    (h : DataW.Trod enc P w 0 (fun _ => true) true t v d p) : ∃ l : List Int, Sl (Old w No) w v l ∧ ∀ x ∈ l, (Lit.int .i64 x).wf = true := by
  obtain ⟨a0, len, cap, rfl⟩ := okWide_slice hT hv
  obtain ⟨fuel, hf⟩ := h
  rcases open_ints hT hE hC hf with ⟨hcs, _⟩ | ⟨a, len', cap', zs, hcs, _, hl, hm, hz, _, hcell, hwz⟩
  · simp [Value.cells] at hcs
    obtain ⟨rfl, rfl, rfl⟩ := hcs
    exact ⟨[], Sl.nil _ _, by simp⟩
  · simp [Value.cells] at hcs
    obtain ⟨rfl, rfl, rfl⟩ := hcs
    simp only [if_true] at hz
    refine ⟨zs.take len, sl_of_cells (by simp; omega) hl (fun i x hx j u hu => ?_), fun x hx => hwz x (List.mem_of_mem_take hx)⟩
    have hil : i < len := by
      have := (List.getElem?_eq_some_iff.1 hx).1
      simp at this; omega
    have hx' : zs[i]? = some x := by
      rw [List.getElem?_take, if_pos hil] at hx; exact hx
    have hj : j = 0 := by
      have := (List.getElem?_eq_some_iff.1 hu).1
      have hs : (Flat.enc x).length = 1 := Flat.len x
      omega
    subst hj
    have := hcell i (by omega)
    have hu' : (Value.int .i64 x) = u := by simpa [Flat.enc] using hu
    rw [show i * Flat.sz Int + 0 = i from Nat.mul_one i, this, ← hu']
    simp [List.getD, hx']
end
end Go.Gv
