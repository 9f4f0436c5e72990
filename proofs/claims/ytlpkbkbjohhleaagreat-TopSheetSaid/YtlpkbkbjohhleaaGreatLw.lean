/- From a call that returns true to the row: how arguments read. -/
import Derived.Test.YtlpkbkbjohhleaaGreatBa
import Derived.ProofKit
import Derived.OpenShut
import Derived.Deep.Slices
import Derived.Deep.Fields
import Derived.Lib.SmallJoins
namespace Go.Gv
open Go.ChangeShapes Go.WideShapes Go.ChangeAt Go.RowKit Go.Deep Go.Joins

theorem below_of_mem {w w' : World} {L : List Chunk} (h : Mem w No L w') : Below w.heap.size w w' := ⟨h.chg.os, h.chg.tape, h.chg.output, h.chg.size, fun k hk => h.chg.kept k hk id⟩

section
variable {H : Type} {enc : TypeId × Value → H} {P : Program}
theorem post_below {f : Func} {s : ChangeSpec} {apart fresh handsOn : Bool} {W W' : World} {args : Array Value} {v : Value} {ds gs : List (DataW H)} {before pa pv : List MemPlace}
    (hW : DataW.Whole enc P f.params.toList s.vars apart W args.toList ds gs before)
    (hres : ∀ (b : Nat) (sp : Nat → Bool) (hd : Bool), DataW.TrodAll enc P W' b sp hd f.resultTypes.toList (v.resultList f.resultTypes.size) (s.fn H (ds ++ gs)).results [])
    (hargs : DataW.TrodAll enc P W' 0 (fun b => decide (b < W.heap.size)) true f.params.toList args.toList (s.fn H (ds ++ gs)).args pa)
    (hvars : DataW.TrodVars enc P W' (fun b => decide (b < W.heap.size)) s.vars (s.fn H (ds ++ gs)).vars pv)
    (hps : before = pa ++ pv) (hb : Below W.heap.size W W') : s.post enc P f apart fresh handsOn false W args v W' := by
  refine ⟨ds, gs, before, [], pa, pv, hW, hres _ _ _, hargs, hvars, World.keptBut_mono (fun p hp => ⟨hp, ?_⟩) (hb.frame (· ∈ before)), fun h => by cases h⟩
  rw [hps, List.mem_append] at hp
  exact Or.inr hp
end

theorem sl_of_cells {α : Type} [Flat α] {w : World} {a : Addr} {len cap : Nat} {l : List α} (hl : l.length = len) (hc : len ≤ cap)
    (hcell : ∀ (i : Nat) (x : α), l[i]? = some x → ∀ (j : Nat) (u : Value), (Flat.enc x)[j]? = some u → w.cell? (a.add (i * Flat.sz α + j)) = some u) : Sl (Old w No) w (.slice (some a) len cap) l := by
  have hsp : l ≠ [] → a.spot = none := fun hne => by
    obtain ⟨x, r, rfl⟩ := List.exists_cons_of_ne_nil hne
    have hp : 0 < (Flat.enc x).length := by rw [Flat.len]; exact Flat.pos
    have := hcell 0 x rfl 0 _ (List.getElem?_eq_getElem hp)
    simp only [Nat.zero_mul, Nat.zero_add] at this
    have ha : a.add 0 = a := by simp [Addr.add]
    rw [ha] at this
    unfold World.cell? at this
    split at this
    · split at this
      · cases this
      · rename_i hs; simpa using hs
    · cases this
  refine ⟨some a, cap, by rw [hl], by omega, fun hne => ?_, fun i x hx => ?_⟩
  · have := hsp hne
    exact ⟨a.block, a.off, by cases a; simp_all⟩
  · have hne : l ≠ [] := by rintro rfl; simp at hx
    have hs := hsp hne
    obtain ⟨b, o, sp⟩ := a
    simp only at hs
    subst hs
    have hadd : ∀ k, (⟨b, o, none⟩ : Addr).add k = ⟨b, o + k, none⟩ := fun k => by unfold Addr.add; split <;> simp_all
    have hp : 0 < (Flat.enc x).length := by rw [Flat.len]; exact Flat.pos
    have h0 := hcell i x hx 0 _ (List.getElem?_eq_getElem hp)
    refine ⟨⟨?_, id⟩, _, rfl, fun j u hu => ?_⟩
    · have := World.block_lt_of_cell? w _ h0
      rw [hadd] at this
      exact this
    · have := hcell i x hx j u hu
      rw [hadd] at this
      rw [← this]
      congr 2
      show o + i * Flat.sz α + j = _
      omega

section
variable {H : Type} {enc : TypeId × Value → H} {P : Program} {w : World} {r : Reach} {base t e : Nat} {v : Value} {d : DataW H} {p : List MemPlace}

/-- A []int argument. -/
theorem int_list (hT : P.underlying t = some (.slice e)) (hE : P.underlying e = some (.int .i64)) (hC : P.cellsOf e = 1) (hv : Value.okWide P w r base t v)
    (h : DataW.Trod enc P w 0 (fun _ => true) true t v d p) : ∃ l : List Int, Sl (Old w No) w v l ∧ ∀ x ∈ l, (Lit.int .i64 x).wf = true := by
  obtain ⟨a0, len, cap, rfl⟩ := okWide_slice hT hv
  obtain ⟨fuel, hf⟩ := h
  rcases open_ints hT hE hC hf with ⟨hcs, _⟩ | ⟨a, len', cap', zs, hcs, _, hl, hm, hz, _, hcell, hwz⟩
  · simp [Value.cells] at hcs
    obtain ⟨rfl, rfl, rfl⟩ := hcs
    exact ⟨[], Sl.nil _ _, by simp⟩
  · simp [Value.cells] at hcs
    obtain ⟨rfl, rfl, rfl⟩ := hcs
    simp only [if_true] at hz
    refine ⟨zs.take len, sl_of_cells (by simp; omega) hl (fun i x hx j u hu => ?_), fun x hx => hwz x (List.mem_of_mem_take hx)⟩
    have hil : i < len := by
      have := (List.getElem?_eq_some_iff.1 hx).1
      simp at this; omega
    have hx' : zs[i]? = some x := by
      rw [List.getElem?_take, if_pos hil] at hx; exact hx
    have hj : j = 0 := by
      have := (List.getElem?_eq_some_iff.1 hu).1
      have hs : (Flat.enc x).length = 1 := Flat.len x
      omega
    subst hj
    have := hcell i (by omega)
    have hu' : (Value.int .i64 x) = u := by simpa [Flat.enc] using hu
    rw [show i * Flat.sz Int + 0 = i from Nat.mul_one i, this, ← hu']
    simp [List.getD, hx']
end

/-- What a type's data read as: for opening arguments. -/
structure OpenT (P : Program) (t : TypeId) (α : Type) [Rep α] (ok : α → Prop) : Prop where
  op : ∀ {H : Type} {enc : TypeId × Value → H} {w : World} {fuel : Nat} {cs : List Value} {y : DataW H × List MemPlace}, DataW.trod enc P w 0 (fun _ => true) true fuel t cs = some y → ∃ x : α, Rep.rep (Old w No) w x cs ∧ ok x
  sz : P.cellsOf t = Rep.sz α
  pos : 0 < Rep.sz α

def in64P (x : Int) : Prop := -9223372036854775808 ≤ x ∧ x ≤ 9223372036854775807
theorem openT_i64 {P : Program} {t : TypeId} (hT : P.underlying t = some (.int .i64)) (hC : P.cellsOf t = 1) : OpenT P t Int in64P :=
  ⟨fun h => by
    obtain ⟨n, rfl, _, hw⟩ := DataW.trod_int hT h
    exact ⟨n, rfl, bounds_i64 hw⟩, hC, by decide⟩
theorem openT_bool {P : Program} {t : TypeId} (hT : P.underlying t = some .bool) (hC : P.cellsOf t = 1) : OpenT P t Bool (fun _ => True) :=
  ⟨fun h => by
    obtain ⟨n, rfl, _⟩ := DataW.trod_bool hT h
    exact ⟨n, rfl, trivial⟩, hC, by decide⟩
theorem openT_u8 {P : Program} {t : TypeId} (hT : P.underlying t = some (.int .u8)) (hC : P.cellsOf t = 1) : OpenT P t UInt8 (fun _ => True) :=
  ⟨fun h => by
    obtain ⟨n, rfl, _, hw⟩ := DataW.trod_int hT h
    have hb : 0 ≤ n ∧ n < 256 := by simp [Lit.wf, IntKind.min, IntKind.max, IntKind.bits, IntKind.signed] at hw; omega
    refine ⟨UInt8.ofNat n.toNat, ?_, trivial⟩
    have e : ((UInt8.ofNat n.toNat).toNat : Int) = n := by simp [UInt8.toNat_ofNat']; omega
    show [Value.int .u8 n] = [Value.int .u8 ((UInt8.ofNat n.toNat).toNat : Int)]
    rw [e], hC, by decide⟩

section
variable {H : Type} {enc : TypeId × Value → H} {P : Program} {w : World} {r : Reach} {base t e : Nat} {v : Value} {d : DataW H} {p : List MemPlace} {α : Type} [Rep α] [Inhabited α] {ok : α → Prop}
theorem OpenT.cells (h : OpenT P e α ok) (hT : P.underlying t = some (.slice e)) {fuel : Nat} {cs : List Value} {y : DataW H × List MemPlace}
    (hf : DataW.trod enc P w 0 (fun _ => true) true fuel t cs = some y) : ∃ (v : Value) (l : List α), cs = [v] ∧ Sl (Old w No) w v l ∧ ∀ x ∈ l, ok x := by
  rcases open_slice hT hf with ⟨rfl, _⟩ | ⟨a, len, cap, m, n, D, Pl, rfl, _, hl, hm, hmm, _, hx⟩
  · exact ⟨_, [], rfl, Sl.nil _ _, by simp⟩
  · simp only [if_true] at hmm
    subst hmm
    obtain ⟨X, hX⟩ := choose_lt (n := len) (p := fun i (x : α) => ∃ cs', w.cells? 0 (a.add (i * P.cellsOf e)) (P.cellsOf e) = some cs' ∧ Rep.rep (Old w No) w x cs' ∧ ok x) (fun i hi => by
      obtain ⟨cs', h1, h2⟩ := hx i (by omega)
      obtain ⟨x, hx, ho⟩ := h.op h2
      exact ⟨x, cs', h1, hx, ho⟩)
    have hpos : 0 < P.cellsOf e := by rw [h.sz]; exact h.pos
    have hsp : 0 < len → a.spot = none := fun h0 => by
      obtain ⟨cs', h1, h2, _⟩ := hX 0 h0
      obtain ⟨_, hlen, hc⟩ := World.cells?_some h1
      have hc0 := hc 0 hpos
      rw [List.getElem?_eq_getElem (by omega)] at hc0
      simp only [Nat.zero_mul, Addr.add, if_true] at hc0
      unfold World.cell? at hc0
      split at hc0
      · split at hc0
        · cases hc0
        · rename_i hs; simpa using hs
      · cases hc0
    refine ⟨_, (List.range len).map X, rfl, ⟨some a, m, by simp, by simpa using hl, fun hne => ?_, fun i x hx => ?_⟩, fun x hx => ?_⟩
    · have h0 : 0 < len := by
        rcases Nat.eq_zero_or_pos len with h | h
        · subst h; exact absurd rfl hne
        · exact h
      have := hsp h0
      obtain ⟨b, o, sp⟩ := a
      simp only at this
      subst this
      exact ⟨b, o, rfl⟩
    · have hi : i < len := by
        have := (List.getElem?_eq_some_iff.1 hx).1
        simpa using this
      have : x = X i := by
        obtain ⟨_, e⟩ := List.getElem?_eq_some_iff.1 hx
        simpa using e.symm
      subst this
      obtain ⟨cs', h1, h2, _⟩ := hX i hi
      obtain ⟨_, hlen, hc⟩ := World.cells?_some h1
      have hs := hsp (by omega)
      obtain ⟨b, o, sp⟩ := a
      simp only at hs
      subst hs
      have hadd : ∀ k, (⟨b, o, none⟩ : Addr).add k = ⟨b, o + k, none⟩ := fun k => by unfold Addr.add; split <;> simp_all
      have hadd2 : ∀ o k, (⟨b, o, none⟩ : Addr).add k = ⟨b, o + k, none⟩ := fun o k => by unfold Addr.add; split <;> simp_all
      refine ⟨⟨?_, id⟩, cs', h2, fun j u hu => ?_⟩
      · have hc0 := hc 0 hpos
        rw [List.getElem?_eq_getElem (by omega)] at hc0
        have := World.block_lt_of_cell? w _ hc0
        rw [hadd, hadd2] at this
        exact this
      · have hj : j < cs'.length := (List.getElem?_eq_some_iff.1 hu).1
        have := hc j (by omega)
        rw [hadd, hadd2, hu, h.sz] at this
        exact this
    · obtain ⟨i, hi, rfl⟩ := List.mem_map.1 hx
      obtain ⟨_, _, _, ho⟩ := hX i (by simpa using hi)
      exact ho
theorem OpenT.list (h : OpenT P e α ok) (hT : P.underlying t = some (.slice e)) (hv : Value.okWide P w r base t v) (hd : DataW.Trod enc P w 0 (fun _ => true) true t v d p) : ∃ l : List α, Sl (Old w No) w v l ∧ ∀ x ∈ l, ok x := by
  obtain ⟨a0, len, cap, rfl⟩ := okWide_slice hT hv
  obtain ⟨fuel, hf⟩ := hd
  obtain ⟨v', l, hcs, hl⟩ := h.cells hT hf
  simp [Value.cells] at hcs
  subst hcs
  exact ⟨l, hl⟩
omit [Inhabited α] in
theorem OpenT.agg {fs : Array Field} (h : OpenT P t α ok) (hT : P.underlying t = some (.struct fs)) (hv : Value.okWide P w r base t v) (hd : DataW.Trod enc P w 0 (fun _ => true) true t v d p) : ∃ x : α, (∃ cs, v = .agg cs ∧ Rep.rep (Old w No) w x cs.toList) ∧ ok x := by
  obtain ⟨cs, rfl, _⟩ := okWide_struct hT hv
  obtain ⟨fuel, hf⟩ := hd
  obtain ⟨x, hx, ho⟩ := h.op hf
  exact ⟨x, ⟨cs, rfl, by simpa [Value.cells] using hx⟩, ho⟩
end
/-- A struct's field. -/
theorem field_cs {H : Type} {enc : TypeId × Value → H} {P : Program} {w : World} {fuel : Nat} {t : TypeId} {fs : Array Field} {cs : List Value} {y : DataW H × List MemPlace} (hT : P.underlying t = some (.struct fs))
    (hf : DataW.trod enc P w 0 (fun _ => true) true fuel t cs = some y) : cs.length = P.cellsOf t ∧ ∀ (i : Nat) (f : Field), fs[i]? = some f → ∃ n z, DataW.trod enc P w 0 (fun _ => true) true n f.type ((cs.drop f.offset).take (P.cellsOf f.type)) = some z := by
  obtain ⟨xs, n, _, _, hl, hlen, hx⟩ := DataW.trod_struct hT hf
  refine ⟨hl, fun i f hi => ?_⟩
  have hlt : i < fs.size := (Array.getElem?_eq_some_iff.1 hi).1
  have := hx i f hi
  rw [List.getElem?_eq_getElem (by omega)] at this
  exact ⟨n, _, this⟩
theorem drop_split {cs a : List Value} {o k k' : Nat} (hk : k = k') (h : (cs.drop o).take k = a) : cs.drop o = a ++ cs.drop (o + k') := by
  subst hk
  rw [← h, ← List.drop_drop, List.take_append_drop]
end Go.Gv
