/- Lists of lists: a list of headers and the rows that they lead to. Program-independent. -/
import Derived.Test.YtlpkbkbjohhleaaGreatBa
import Derived.Laws.IdiomStrings
import Derived.Lib.SliceRun
namespace Go.Gv
open Go.RowKit

/-- A list's header. -/
abbrev Hdr := {v : Value // v.oneCell' = true}
instance : Flat Hdr where
  sz := 1
  bytes := 24
  enc := fun x => [x.1]
  pos := by decide
  len := fun _ => rfl
  one := fun x u hu => by simp at hu; subst hu; exact x.2
def nilH : Hdr := ⟨.slice none 0 0, rfl⟩

theorem list_choose {β γ : Type} : ∀ (ls : List β) (p : Nat → β → γ → Prop), (∀ i l, ls[i]? = some l → ∃ h, p i l h) → ∃ hs : List γ, hs.length = ls.length ∧ ∀ i h l, hs[i]? = some h → ls[i]? = some l → p i l h
  | [], _, _ => ⟨[], rfl, fun i h l hh => by simp at hh⟩
  | x :: ls, p, hp => by
    obtain ⟨h0, hh0⟩ := hp 0 x rfl
    obtain ⟨hs, hl, hr⟩ := list_choose ls (fun i l h => p (i + 1) l h) (fun i l hl => hp (i + 1) l (by simpa using hl))
    refine ⟨h0 :: hs, by simp [hl], fun i h l hi hli => ?_⟩
    cases i with
    | zero => simp at hi hli; subst hi; subst hli; exact hh0
    | succ i => exact hr i h l (by simpa using hi) (by simpa using hli)

section
variable {α : Type} [Rep α] {R R' : Nat → Prop} {w w' : World} {v : Value} {hs hs' : List Hdr} {ls ls' : List (List α)}

def Rows (R : Nat → Prop) (w : World) (hs : List Hdr) (ls : List (List α)) : Prop := hs.length = ls.length ∧ ∀ (i : Nat) (h : Hdr) (l : List α), hs[i]? = some h → ls[i]? = some l → Sl R w h.1 l
/-- v reads as the headers hs, and these as the rows ls. -/
structure Nl (R : Nat → Prop) (w : World) (v : Value) (hs : List Hdr) (ls : List (List α)) : Prop where
  sp : Sl R w v hs
  rows : Rows R w hs ls

theorem Nl.sl (h : Nl R w v hs ls) : Sl R w v ls := by
  obtain ⟨⟨A, c, hv, hc, hA, hi⟩, hlen, hr⟩ := h
  refine ⟨A, c, by rw [← hlen]; exact hv, by omega, fun hne => hA fun e => hne (by subst e; exact List.eq_nil_of_length_eq_zero hlen.symm), fun i x hx => ?_⟩
  have hlt : i < hs.length := by rw [hlen]; exact (List.getElem?_eq_some_iff.1 hx).1
  obtain ⟨hR, cs, hrep, hcell⟩ := hi i hs[i] (List.getElem?_eq_getElem hlt)
  have : cs = [hs[i].1] := hrep
  subst this
  exact ⟨hR, _, ⟨_, rfl, hr i _ x (List.getElem?_eq_getElem hlt) hx⟩, hcell⟩

theorem Sl.nest (h : Sl R w v ls) : ∃ hs, Nl R w v hs ls := by
  obtain ⟨A, c, hv, hc, hA, hi⟩ := h
  obtain ⟨hs, hlen, hr⟩ := list_choose (γ := Hdr) ls (fun i l h => Sl R w h.1 l ∧ R (pB v) ∧ CellsAt w (pB v) (pO v + i * 1) [h.1]) (fun i l hl => by
    obtain ⟨hR, cs, ⟨u, rfl, hu⟩, hcell⟩ := hi i l hl
    obtain ⟨A', c', hu'⟩ := hu.val
    exact ⟨⟨u, by rw [hu']; rfl⟩, hu, hR, hcell⟩)
  refine ⟨hs, ⟨A, c, by rw [hlen]; exact hv, by omega, fun hne => hA fun e => hne (by subst e; exact List.eq_nil_of_length_eq_zero hlen), fun i x hx => ?_⟩, hlen, fun i h l hh hl => (hr i h l hh hl).1⟩
  have hlt : i < ls.length := by rw [← hlen]; exact (List.getElem?_eq_some_iff.1 hx).1
  obtain ⟨_, h2, h3⟩ := hr i x _ hx (List.getElem?_eq_getElem hlt)
  exact ⟨h2, _, rfl, h3⟩

theorem Rows.mono (h : Rows R w hs ls) (hr : ∀ g, R g → R' g ∧ w'.heap[g]? = w.heap[g]?) : Rows R' w' hs ls := ⟨h.1, fun i z l hz hl => (h.2 i z l hz hl).mono hr⟩
theorem Nl.mono (h : Nl R w v hs ls) (hr : ∀ g, R g → R' g ∧ w'.heap[g]? = w.heap[g]?) : Nl R' w' v hs ls := ⟨h.sp.mono hr, h.rows.mono hr⟩
theorem Nl.of_old {w0 : World} {T : Nat → Prop} {L : List Chunk} (h : Nl (Old w0 T) w0 v hs ls) (hm : Mem w0 T L w) : Nl (Old w0 T) w v hs ls := h.mono fun g hg => ⟨hg, hm.old g hg⟩
theorem Nl.to_call {w0 : World} {T : Nat → Prop} {L : List Chunk} (h : Nl (Old w0 T) w0 v hs ls) (hm : Mem w0 T L w) : Nl (Old w No) w v hs ls := h.mono fun g hg => ⟨⟨Nat.lt_of_lt_of_le hg.1 hm.chg.size, id⟩, hm.old g hg⟩
theorem Nl.to_callT {w0 : World} {T : Nat → Prop} {L : List Chunk} {k : Nat} {c : Chunk} (h : Nl (Old w0 T) w0 v hs ls) (hm : Mem w0 T L w) (hk : L[k]? = some c) : Nl (Old w c.D) w v hs ls := h.mono fun g hg => ⟨hm.old_old hk g hg, hm.old g hg⟩
theorem Rows.nil : Rows (α := α) R w [] [] := ⟨rfl, fun i h l hh => by simp at hh⟩
theorem Nl.nil : Nl (α := α) R w (.slice none 0 0) [] [] := ⟨Sl.nil _ _, Rows.nil⟩
theorem Rows.cons {z : Hdr} {r : Value} {l : List α} (hz : Sl R w r l) (ez : z.1 = r) (h : Rows R w hs ls) : Rows R w (z :: hs) (l :: ls) := ⟨by simp [h.1], fun i z' l' hz' hl' => by
  cases i with
  | zero => simp at hz' hl'; subst hz'; subst hl'; rw [ez]; exact hz
  | succ i => exact h.2 i z' l' (by simpa using hz') (by simpa using hl')⟩
theorem Rows.app {ls2 : List (List α)} {hs2 : List Hdr} (h : Rows R w hs ls) (h2 : Rows R w hs2 ls2) (e : ls' = ls ++ ls2) : Rows R w (hs ++ hs2) ls' := by
  subst e
  refine ⟨by simp [h.1, h2.1], fun i z l hz hl => ?_⟩
  by_cases hi : i < hs.length
  · rw [List.getElem?_append_left hi] at hz
    rw [List.getElem?_append_left (by rw [← h.1]; exact hi)] at hl
    exact h.2 i z l hz hl
  · rw [List.getElem?_append_right (by omega)] at hz
    rw [List.getElem?_append_right (by rw [← h.1]; omega), ← h.1] at hl
    exact h2.2 _ z l hz hl

theorem Nl.row (h : Nl R w v hs ls) {i : Int} {l : List α} (hl : idx ls i = some l) : ∃ z : Hdr, idx hs i = some z := by
  obtain ⟨h0, h1, h2⟩ := idx_some hl
  have hlt : i.toNat < hs.length := by rw [h.rows.1]; omega
  exact ⟨hs[i.toNat], by unfold idx; rw [if_pos h0, List.getElem?_eq_getElem hlt]⟩
theorem Nl.rowg {g : Bool} (h : Nl R w v hs ls) {i : Int} {l : List α} (hl : g = true → idx ls i = some l) : ∃ z : Hdr, g = true → idx hs i = some z := by
  cases g with
  | false => exact ⟨nilH, fun h => by cases h⟩
  | true => obtain ⟨z, hz⟩ := h.row (hl rfl); exact ⟨z, fun _ => hz⟩
theorem Nl.get (h : Nl R w v hs ls) {i : Int} {z : Hdr} {l : List α} (hz : idx hs i = some z) (hl : idx ls i = some l) : Sl R w z.1 l := h.rows.2 _ z l (idx_some hz).2.2 (idx_some hl).2.2
theorem Nl.cells (h : Nl R w v hs ls) {i : Int} {z : Hdr} (hz : idx hs i = some z) : CellsAt w (pB v) (pO v + i.toNat * 1) [z.1] := h.sp.cells hz

theorem Rows.sub {lo hi : Int} (h : Rows R w hs ls) (e : slc ls lo hi = some ls') : Rows R w ((hs.take hi.toNat).drop lo.toNat) ls' := by
  obtain ⟨h0, h1, h2, rfl⟩ := slc_some e
  refine ⟨by simp [h.1], fun i z l hz hl => ?_⟩
  rw [List.getElem?_drop, List.getElem?_take] at hz hl
  split at hz
  · rename_i hlt
    rw [if_pos hlt] at hl
    exact h.2 _ z l hz hl
  · cases hz
theorem Nl.sub {lo hi : Int} (h : Nl R w v hs ls) (e : slc ls lo hi = some ls') : Nl R w (subV v lo hi 1) ((hs.take hi.toNat).drop lo.toNat) ls' := by
  obtain ⟨h0, h1, h2, _⟩ := slc_some e
  refine ⟨h.sp.sub (lo := lo) (hi := hi) ?_, h.rows.sub e⟩
  unfold slc
  rw [if_pos ⟨h0, h1, by rw [h.rows.1]; exact h2⟩]
end

/-! rows that the call owns -/
def rowsC {α : Type} [Flat α] (e : Nat) (hs : List Hdr) (ls : List (List α)) (ho : Option Nat) : Chunk where
  D := fun g => ∃ (i : Nat) (z : Hdr), hs[i]? = some z ∧ ho ≠ some i ∧ z.1.ownBlock = some g
  φ := fun w => hs.length = ls.length ∧ (∀ (i : Nat) (z : Hdr) (l : List α), hs[i]? = some z → ls[i]? = some l → ho ≠ some i → (ownL e z.1 l).φ w) ∧
    (∀ (i j : Nat) (z z' : Hdr) (g : Nat), i ≠ j → hs[i]? = some z → hs[j]? = some z' → ho ≠ some i → ho ≠ some j → z.1.ownBlock = some g → z'.1.ownBlock ≠ some g)
  loc := fun w w' h hφ => ⟨hφ.1, fun i z l hz hl hi => (ownL e z.1 l).loc w w' (fun g hg => h g ⟨i, z, hz, hi, hg⟩) (hφ.2.1 i z l hz hl hi), hφ.2.2⟩
  lt := fun w hφ g ⟨i, z, hz, hi, hg⟩ => by
    have hlt : i < ls.length := by rw [← hφ.1]; exact (List.getElem?_eq_some_iff.1 hz).1
    exact (ownL e z.1 ls[i]).lt w (hφ.2.1 i z _ hz (List.getElem?_eq_getElem hlt) hi) g hg

section
variable {w0 w : World} {T : Nat → Prop} {L : List Chunk} {c c1 c2 : Chunk}
theorem Mem.merge2 (hm : Mem w0 T (c1 :: c2 :: L) w) (hφ : c.φ w) (hD : ∀ g, c.D g → c1.D g ∨ c2.D g) : Mem w0 T (c :: L) w := by
  obtain ⟨a, b, d, e⟩ := hm
  rw [List.pairwise_cons, List.pairwise_cons] at e
  refine ⟨a, fun x hx => ?_, fun x hx g hg => ?_, List.pairwise_cons.2 ⟨fun x hx g hg hg' => ?_, e.2.2⟩⟩
  · rcases List.mem_cons.1 hx with rfl | hx
    · exact hφ
    · exact b x (by simp [hx])
  · rcases List.mem_cons.1 hx with rfl | hx
    · rcases hD g hg with h | h
      · exact d c1 (by simp) g h
      · exact d c2 (by simp) g h
    · exact d x (by simp [hx]) g hg
  · rcases hD g hg with h | h
    · exact e.1 x (by simp [hx]) g h hg'
    · exact e.2.1 x hx g h hg'
theorem Mem.split2 (hm : Mem w0 T (c :: L) w) (h1 : c1.φ w) (h2 : c2.φ w) (hD1 : ∀ g, c1.D g → c.D g) (hD2 : ∀ g, c2.D g → c.D g) (hd : ∀ g, c1.D g → ¬ c2.D g) : Mem w0 T (c1 :: c2 :: L) w := by
  obtain ⟨a, b, d, e⟩ := hm
  rw [List.pairwise_cons] at e
  refine ⟨a, fun x hx => ?_, fun x hx g hg => ?_, List.pairwise_cons.2 ⟨fun x hx g hg hg' => ?_, List.pairwise_cons.2 ⟨fun x hx g hg hg' => e.1 x hx g (hD2 g hg) hg', e.2⟩⟩⟩
  · rcases List.mem_cons.1 hx with rfl | hx
    · exact h1
    · rcases List.mem_cons.1 hx with rfl | hx
      · exact h2
      · exact b x (by simp [hx])
  · rcases List.mem_cons.1 hx with rfl | hx
    · exact d c (by simp) g (hD1 g hg)
    · rcases List.mem_cons.1 hx with rfl | hx
      · exact d c (by simp) g (hD2 g hg)
      · exact d x (by simp [hx]) g hg
  · rcases List.mem_cons.1 hx with rfl | hx
    · exact hd g hg hg'
    · exact e.1 x hx g (hD1 g hg) hg'
theorem Mem.weak1 (hm : Mem w0 T (c :: L) w) (h1 : c1.φ w) (hD1 : ∀ g, c1.D g → c.D g) : Mem w0 T (c1 :: L) w := by
  have h := hm.upd (k := 0) (c' := c1) rfl (Chg.refl _ _) h1 (fun g hg => .inl (hD1 g hg))
  exact h

variable {α : Type} [Flat α] {e e0 : Nat} {hs : List Hdr} {ls ls' : List (List α)} {z : Hdr} {l : List α} {r v : Value}

theorem Mem.rowsNil (hm : Mem w0 T L w) (e : Nat) : Mem w0 T (rowsC e [] ([] : List (List α)) none :: L) w :=
  hm.add (Chg.refl _ _) ⟨rfl, fun i z l hz => by simp at hz, fun i j z z' g _ hz => by simp at hz⟩ (fun g ⟨i, z, hz, _⟩ => by simp at hz)

theorem Mem.rowsRep {n : Int} {bytes : Nat} (hm : Mem w0 T L w) (e : Nat) (hl : mkL bytes n ([] : List α) = some ls) : Mem w0 T (rowsC e (List.replicate n.toNat nilH) ls none :: L) w := by
  unfold mkL at hl
  split at hl
  case isFalse => cases hl
  case isTrue =>
    have := os hl
    subst this
    have hz : ∀ (i : Nat) (z : Hdr), (List.replicate n.toNat nilH)[i]? = some z → z = nilH := fun i z h => by
      have := List.mem_of_getElem? h
      exact List.eq_of_mem_replicate this
    refine hm.add (Chg.refl _ _) ⟨by simp, fun i z l h1 h2 _ => ?_, fun i j z z' g _ h1 h2 _ _ h3 => ?_⟩ (fun g ⟨i, z, h1, _, h3⟩ => ?_)
    · have e2 := List.eq_of_mem_replicate (List.mem_of_getElem? h2)
      rw [hz i z h1, e2]
      exact World.ownsRow_nil w 0 e _
    · rw [hz i z h1] at h3; simp [nilH, Value.ownBlock] at h3
    · rw [hz i z h1] at h3; simp [nilH, Value.ownBlock] at h3

theorem mkL_h {β γ : Type} {n : Int} {bytes : Nat} {z : β} {z' : γ} {l : List β} (h : mkL bytes n z = some l) : mkL bytes n z' = some (List.replicate n.toNat z') := by
  unfold mkL at h ⊢
  split at h
  · rename_i hh; rw [if_pos hh]
  · cases h
theorem app_h {β γ : Type} {b : Nat} {l1 l2 l' : List β} {k1 k2 : List γ} (h : app b l1 l2 = some l') (e1 : k1.length = l1.length) (e2 : k2.length = l2.length) : app b k1 k2 = some (k1 ++ k2) ∧ l' = l1 ++ l2 := by
  unfold app at h ⊢
  split at h
  · rename_i hh; rw [e1, e2, if_pos hh]; exact ⟨rfl, os h⟩
  · cases h

theorem Mem.absorb (hm : Mem w0 T (rowsC e hs ls none :: ownL e r l :: L) w) (ez : z.1 = r) (el : ls' = ls ++ [l]) : Mem w0 T (rowsC e (hs ++ [z]) ls' none :: L) w := by
  subst ez; subst el
  have h1 := hm.own _ List.mem_cons_self
  have h2 := hm.own _ (List.mem_cons_of_mem _ List.mem_cons_self)
  have hd := (List.pairwise_cons.1 hm.disj).1 _ List.mem_cons_self
  obtain ⟨hlen, hrow, hdis⟩ := h1
  have get : ∀ (i : Nat) (z' : Hdr), (hs ++ [z])[i]? = some z' → (i < hs.length ∧ hs[i]? = some z') ∨ (i = hs.length ∧ z' = z) := fun i z' h => by
    by_cases hi : i < hs.length
    · rw [List.getElem?_append_left hi] at h; exact .inl ⟨hi, h⟩
    · rw [List.getElem?_append_right (by omega)] at h
      have : i - hs.length < [z].length := (List.getElem?_eq_some_iff.1 h).1
      have hi' : i = hs.length := by simp at this; omega
      subst hi'
      simp at h
      exact .inr ⟨rfl, h.symm⟩
  refine hm.merge2 ⟨by simp [hlen], fun i z' l' hz hl _ => ?_, fun i j z' z'' g hij hz hz' _ _ hg hg' => ?_⟩ (fun g ⟨i, z', hz, _, hg⟩ => ?_)
  · rcases get i z' hz with ⟨hi, hz⟩ | ⟨rfl, rfl⟩
    · rw [List.getElem?_append_left (by omega)] at hl
      exact hrow i z' l' hz hl (by simp)
    · rw [List.getElem?_append_right (by omega)] at hl
      simp [hlen] at hl
      subst hl
      exact h2
  · rcases get i z' hz with ⟨hi, ka⟩ | ⟨rfl, rfl⟩ <;> rcases get j z'' hz' with ⟨hj, kb⟩ | ⟨rfl, rfl⟩
    · exact hdis i j z' z'' g hij ka kb (by simp) (by simp) hg hg'
    · exact hd g ⟨i, z', ka, by simp, hg⟩ hg'
    · exact hd g ⟨j, z'', kb, by simp, hg'⟩ hg
    · exact hij rfl
  · rcases get i z' hz with ⟨hi, hz⟩ | ⟨rfl, rfl⟩
    · exact .inl ⟨i, z', hz, by simp, hg⟩
    · exact .inr hg

theorem Mem.hole (hm : Mem w0 T (rowsC e hs ls none :: L) w) (i : Nat) : Mem w0 T (rowsC e hs ls (some i) :: L) w := by
  obtain ⟨hlen, hrow, hdis⟩ := hm.own _ List.mem_cons_self
  exact hm.weak1 ⟨hlen, fun i z l hz hl _ => hrow i z l hz hl (by simp), fun i j z z' g hij hz hz' _ _ => hdis i j z z' g hij hz hz' (by simp) (by simp)⟩ fun g ⟨i, z, hz, _, hg⟩ => ⟨i, z, hz, by simp, hg⟩

theorem Mem.fill {i : Nat} (hm : Mem w0 T (rowsC e hs ls (some i) :: ownL e r l :: L) w) (ez : z.1 = r) : Mem w0 T (rowsC e (hs.set i z) (ls.set i l) none :: L) w := by
  subst ez
  have h1 := hm.own _ List.mem_cons_self
  have h2 := hm.own _ (List.mem_cons_of_mem _ List.mem_cons_self)
  have hd := (List.pairwise_cons.1 hm.disj).1 _ List.mem_cons_self
  obtain ⟨hlen, hrow, hdis⟩ := h1
  have get : ∀ (j : Nat) (z' : Hdr), (hs.set i z)[j]? = some z' → (i ≠ j ∧ hs[j]? = some z') ∨ (i = j ∧ z' = z) := fun j z' h => by
    rw [List.getElem?_set] at h
    by_cases hi : i = j
    · rw [if_pos hi] at h
      split at h
      · exact .inr ⟨hi, (os h).symm ▸ rfl⟩
      · cases h
    · rw [if_neg hi] at h; exact .inl ⟨hi, h⟩
  refine hm.merge2 ⟨by simp [hlen], fun j z' l' hz hl _ => ?_, fun j k z' z'' g hij hz hz' _ _ hg hg' => ?_⟩ (fun g ⟨j, z', hz, _, hg⟩ => ?_)
  · rcases get j z' hz with ⟨hi, hz⟩ | ⟨rfl, rfl⟩
    · rw [List.getElem?_set, if_neg hi] at hl
      exact hrow j z' l' hz hl (by simpa using hi)
    · rw [List.getElem?_set, if_pos rfl] at hl
      split at hl
      · have := os hl; subst this; exact h2
      · cases hl
  · rcases get j z' hz with ⟨hi, ka⟩ | ⟨rfl, rfl⟩ <;> rcases get k z'' hz' with ⟨hj, kb⟩ | ⟨rfl, rfl⟩
    · exact hdis j k z' z'' g hij ka kb (by simpa using hi) (by simpa using hj) hg hg'
    · exact hd g ⟨j, z', ka, by simpa using hi, hg⟩ hg'
    · exact hd g ⟨k, z'', kb, by simpa using hj, hg'⟩ hg
    · exact hij rfl
  · rcases get j z' hz with ⟨hi, hz⟩ | ⟨rfl, rfl⟩
    · exact .inl ⟨j, z', hz, by simpa using hi, hg⟩
    · exact .inr hg

theorem Mem.focus {i : Int} (hm : Mem w0 T (rowsC e hs ls none :: L) w) (hz : idx hs i = some z) (hl : idx ls i = some l) : Mem w0 T (rowsC e hs ls (some i.toNat) :: ownL e z.1 l :: L) w := by
  obtain ⟨hlen, hrow, hdis⟩ := hm.own _ List.mem_cons_self
  have hz' := (idx_some hz).2.2
  have hl' := (idx_some hl).2.2
  refine hm.split2 ⟨hlen, fun j z l h1 h2 _ => hrow j z l h1 h2 (by simp), fun j k z z' g hjk h1 h2 _ _ => hdis j k z z' g hjk h1 h2 (by simp) (by simp)⟩ (hrow _ z l hz' hl' (by simp))
    (fun g ⟨j, z', h1, _, hg⟩ => ⟨j, z', h1, by simp, hg⟩) (fun g hg => ⟨i.toNat, z, hz', by simp, hg⟩) (fun g ⟨j, z', h1, h2, hg⟩ hg' => ?_)
  exact hdis j i.toNat z' z g (fun e => h2 (by rw [e])) h1 hz' (by simp) (by simp) hg hg'

theorem Mem.rows (hm : Mem w0 T L w) (k : Nat) (hk : L[k]? = some (rowsC e hs ls none)) : Rows (rowsC e hs ls none).D w hs ls := by
  obtain ⟨hlen, hrow, _⟩ := hm.get hk
  exact ⟨hlen, fun i z l hz hl => (sl_of_own (hrow i z l hz hl (by simp))).mono fun g hg => ⟨⟨i, z, hz, by simp, hg⟩, rfl⟩⟩
theorem Mem.rows_call (hm : Mem w0 T L w) (k : Nat) (hk : L[k]? = some (rowsC e hs ls none)) : Rows (Old w No) w hs ls :=
  (hm.rows k hk).mono fun g hg => ⟨⟨(rowsC e hs ls none).lt w (hm.get hk) g hg, id⟩, rfl⟩
theorem Mem.rows_callT (hm : Mem w0 T L w) (k j : Nat) {c : Chunk} (hk : L[k]? = some (rowsC e hs ls none)) (hj : L[j]? = some c) (hne : k ≠ j) : Rows (Old w c.D) w hs ls :=
  (hm.rows k hk).mono fun g hg => ⟨⟨(rowsC e hs ls none).lt w (hm.get hk) g hg, pairwise_at disj_symm hm.disj hk hj hne g hg⟩, rfl⟩
theorem rows_φ {hs : List Hdr} {ls : List (List α)} (h : (rowsC e hs ls none).φ w) : Rows (rowsC e hs ls none).D w hs ls := by
  obtain ⟨hlen, hrow, _⟩ := h
  exact ⟨hlen, fun i z l hz hl => (sl_of_own (hrow i z l hz hl (by simp))).mono fun g hg => ⟨⟨i, z, hz, by simp, hg⟩, rfl⟩⟩

theorem nl_φ {hs : List Hdr} {ls : List (List α)} (h1 : (ownL e0 v hs).φ w) (h2 : (rowsC e hs ls none).φ w) : Nl (Old w No) w v hs ls :=
  ⟨(sl_of_own h1).mono fun g hg => ⟨⟨(ownL e0 v hs).lt w h1 g hg, id⟩, rfl⟩, (rows_φ h2).mono fun g hg => ⟨⟨(rowsC e hs ls none).lt w h2 g hg, id⟩, rfl⟩⟩
theorem slc_h {β γ : Type} {ls ls' : List β} {hs : List γ} {lo hi : Int} (h : slc ls lo hi = some ls') (e : hs.length = ls.length) : slc hs lo hi = some ((hs.take hi.toNat).drop lo.toNat) := by
  obtain ⟨h0, h1, h2, _⟩ := slc_some h
  unfold slc
  rw [if_pos ⟨h0, h1, by omega⟩]
/-- The front of the rows. -/
theorem Mem.rowsCut {hi : Int} (hm : Mem w0 T (rowsC e hs ls none :: L) w) (hs' : slc ls 0 hi = some ls') : Mem w0 T (rowsC e ((hs.take hi.toNat).drop (0 : Int).toNat) ls' none :: L) w := by
  obtain ⟨hlen, hrow, hdis⟩ := hm.own _ List.mem_cons_self
  obtain ⟨_, h1, h2, rfl⟩ := slc_some hs'
  have get : ∀ (i : Nat) (z' : Hdr), ((hs.take hi.toNat).drop (0 : Int).toNat)[i]? = some z' → hs[i]? = some z' := fun i z' h => by
    simp only [Int.toNat_zero, List.drop_zero, List.getElem?_take] at h
    split at h
    · exact h
    · cases h
  refine hm.weak1 ⟨by simp [hlen], fun i z l hz hl _ => hrow i z l (get i z hz) ?_ (by simp), fun i j z z' g hij hz hz' _ _ => hdis i j z z' g hij (get i z hz) (get j z' hz') (by simp) (by simp)⟩ fun g ⟨i, z, hz, _, hg⟩ => ⟨i, z, get i z hz, by simp, hg⟩
  simp only [Int.toNat_zero, List.drop_zero, List.getElem?_take] at hl
  split at hl
  · exact hl
  · cases hl

section
variable {P : Program} {n : Nat} {env : Env} {d : Option Nat} {ty : TypeId} {pos : String} {af : Array Edge} {g : Option (Nat × Bool)} {x y : Operand} {u : Value} {t : TypeId}
theorem ef_strow {off : Nat} {i j : Int} {xe x' : α} (hm : Mem w0 T (rowsC e hs ls none :: L) w) (ht : TOne P t) (hz : idx hs i = some z) (hl : idx ls i = some l)
    (hx : evo env x = some (.pointer (some ⟨pB z.1, pO z.1 + j.toNat * Rep.sz α + off, none⟩))) (hy : evo env y = some u) (h1 : u.oneCell' = true)
    (hi : idx l j = some xe) (he : (Flat.enc xe).set off u = Flat.enc x') (ho : Nat.blt off (Flat.sz α) = true) :
    Ef P n env ⟨d, .store t x y, ty, pos, af, g⟩ w (fun _ w' => Mem w0 T (rowsC e hs (ls.set i.toNat (l.set j.toNat x')) none :: L) w') :=
  (ef_stl (k := 1) (off := off) (x' := x') (hm.focus hz hl) ht hx hy h1 rfl hi he ho).mono fun _ w' h => by
    have h2 := Mem.fill (z := z) h rfl
    have e : hs.set i.toNat z = hs := by
      have hz' := (idx_some hz).2.2
      apply List.ext_getElem?
      intro k
      rw [List.getElem?_set]
      split
      · rename_i hk; subst hk
        rw [hz', if_pos (List.getElem?_eq_some_iff.1 hz').1]
      · rfl
    rw [e] at h2
    exact h2
theorem ef_stroww {sz : Nat} {i j : Int} {xe x' : α} {nc : Array Value} (hm : Mem w0 T (rowsC e hs ls none :: L) w) (ht : TAgg P t sz) (hz : idx hs i = some z) (hl : idx ls i = some l)
    (hx : evo env x = some (.pointer (some ⟨pB z.1, pO z.1 + j.toNat * Rep.sz α, none⟩))) (hy : evo env y = some (.agg nc))
    (hi : idx l j = some xe) (he : nc.toList = Flat.enc x') (hsz : Flat.sz α = sz) :
    Ef P n env ⟨d, .store t x y, ty, pos, af, g⟩ w (fun _ w' => Mem w0 T (rowsC e hs (ls.set i.toNat (l.set j.toNat x')) none :: L) w') :=
  (ef_stlw (k := 1) (x' := x') (hm.focus hz hl) ht hx hy rfl hi he hsz).mono fun _ w' h => by
    have h2 := Mem.fill (z := z) h rfl
    have e : hs.set i.toNat z = hs := by
      have hz' := (idx_some hz).2.2
      apply List.ext_getElem?
      intro k
      rw [List.getElem?_set]
      split
      · rename_i hk; subst hk
        rw [hz', if_pos (List.getElem?_eq_some_iff.1 hz').1]
      · rfl
    rw [e] at h2
    exact h2
end
end
end Go.Gv
namespace Go.Gv
open Go.RowKit
/-! whole numbers of other kinds -/
def bs (l : List UInt8) : ByteArray := ⟨l.toArray⟩
section
variable {P : Program} {n : Nat} {env : Env} {w w0 : World} {T : Nat → Prop} {L : List Chunk} {d : Option Nat} {ty : TypeId} {pos : String} {af : Array Edge} {g : Option (Nat × Bool)} {x y : Operand} {v u : Value} {t t' : TypeId} {a b s : Int} {k k' : IntKind}

theorem rd_cv (hs : (P.underlying t).isSome = true) (ht : P.underlying t' = some (.int k')) (hx : evo env x = some (.int k a)) : Rd P n env ⟨d, .convert t t' x, ty, pos, af, g⟩ w (.int k' (k'.wrap a)) := rd_mk fun ρ hρ => by
  have e := hρ _ _ hx
  cases hs' : P.underlying t with
  | none => rw [hs'] at hs; cases hs
  | some q => simp [execOp, e, convert, Conv.intToInt, run_underlying ht, run_underlying hs']
theorem rd_cv64 (hs : (P.underlying t).isSome = true) (ht : P.underlying t' = some (.int .i64)) (h : in64 a = some b) (hx : evo env x = some (.int k a)) : Rd P n env ⟨d, .convert t t' x, ty, pos, af, g⟩ w (.int .i64 b) := by
  obtain ⟨rfl, hw⟩ := in64_some h
  have := rd_cv (n := n) (w := w) (d := d) (ty := ty) (pos := pos) (af := af) (g := g) hs ht hx
  rwa [hw] at this
theorem rd_cv8 (hs : (P.underlying t).isSome = true) (ht : P.underlying t' = some (.int .u8)) (hx : evo env x = some (.int k a)) : Rd P n env ⟨d, .convert t t' x, ty, pos, af, g⟩ w (.int .u8 ((toU8 a).toNat : Int)) := by
  have := rd_cv (n := n) (w := w) (d := d) (ty := ty) (pos := pos) (af := af) (g := g) hs ht hx
  rwa [IntKind.wrap_u8, ← toU8_toNat] at this
theorem rd_cvu16 (hs : (P.underlying t).isSome = true) (ht : P.underlying t' = some (.int .u16)) (hx : evo env x = some (.int k a)) : Rd P n env ⟨d, .convert t t' x, ty, pos, af, g⟩ w (.int .u16 (a % 65536)) := by
  have := rd_cv (n := n) (w := w) (d := d) (ty := ty) (pos := pos) (af := af) (g := g) hs ht hx
  rwa [IntKind.wrap_u16] at this
theorem rd_cvu32 (hs : (P.underlying t).isSome = true) (ht : P.underlying t' = some (.int .u32)) (hx : evo env x = some (.int k a)) : Rd P n env ⟨d, .convert t t' x, ty, pos, af, g⟩ w (.int .u32 (a % 4294967296)) := by
  have := rd_cv (n := n) (w := w) (d := d) (ty := ty) (pos := pos) (af := af) (g := g) hs ht hx
  rwa [IntKind.wrap_u32] at this
theorem rd_cvu64 (hs : (P.underlying t).isSome = true) (ht : P.underlying t' = some (.int .u64)) (hx : evo env x = some (.int k a)) : Rd P n env ⟨d, .convert t t' x, ty, pos, af, g⟩ w (.int .u64 (a % 18446744073709551616)) := by
  have := rd_cv (n := n) (w := w) (d := d) (ty := ty) (pos := pos) (af := af) (g := g) hs ht hx
  rwa [IntKind.wrap_u64] at this

theorem rd_bits {op : BinOp} {f : Nat → Nat → Nat} {c : Int} {m : Nat} (hop : ∀ (k : IntKind) (x y : Int), (∀ z : Int, 0 ≤ z → z < 2 ^ m → k.wrap z = z) → m ≤ k.bits → (0 ≤ x ∧ x < 2 ^ m) → (0 ≤ y ∧ y < 2 ^ m) → (binOp op t (.int k x) (.int k y)).run P w = .ok (.int k ((f x.toNat y.toNat : Nat) : Int)) w)
    (hw : ∀ z : Int, 0 ≤ z → z < 2 ^ m → k.wrap z = z) (hm : m ≤ k.bits) (h : bitN f m a b = some c) (hx : evo env x = some (.int k a)) (hy : evo env y = some (.int k b)) :
    Rd P n env ⟨d, .binOp op t x y t', ty, pos, af, g⟩ w (.int k c) := by
  unfold bitN at h
  split at h
  · rename_i hh
    have := os h
    subst this
    exact rd_bin hx hy guard_int (hop k a b hw hm hh.1 hh.2)
  · cases h
theorem ofInt_toNat {m : Nat} {x : Int} (h0 : 0 ≤ x) (h1 : x < 2 ^ m) : (BitVec.ofInt m x).toNat = x.toNat := by
  rw [BitVec.toNat_ofInt]
  congr 1
  exact Int.emod_eq_of_lt h0 (by exact_mod_cast h1)
theorem lift2 {m k : Nat} {x : Int} (hk : m ≤ k) (h1 : x < 2 ^ m) : x < 2 ^ k := Int.lt_of_lt_of_le h1 (by exact_mod_cast Nat.pow_le_pow_right (by decide) hk)
theorem natlt {m : Nat} {x : Int} (h0 : 0 ≤ x) (h1 : x < 2 ^ m) : x.toNat < 2 ^ m := by
  have h2 : (x.toNat : Int) < ((2 ^ m : Nat) : Int) := by rw [Int.toNat_of_nonneg h0]; exact_mod_cast h1
  exact_mod_cast h2
theorem op_xor {m : Nat} (k : IntKind) (x y : Int) (hw : ∀ z : Int, 0 ≤ z → z < 2 ^ m → k.wrap z = z) (hm : m ≤ k.bits) (hx : 0 ≤ x ∧ x < 2 ^ m) (hy : 0 ≤ y ∧ y < 2 ^ m) : (binOp .xor t (.int k x) (.int k y)).run P w = .ok (.int k ((x.toNat ^^^ y.toNat : Nat) : Int)) w := by
  have hlt := Nat.xor_lt_two_pow (natlt hx.1 hx.2) (natlt hy.1 hy.2)
  have e := hw ((x.toNat ^^^ y.toNat : Nat) : Int) (Int.natCast_nonneg _) (by exact_mod_cast hlt)
  simp [binOp, Op.intBits, BitVec.toNat_xor, ofInt_toNat hx.1 (lift2 hm hx.2), ofInt_toNat hy.1 (lift2 hm hy.2), e]
theorem op_or {m : Nat} (k : IntKind) (x y : Int) (hw : ∀ z : Int, 0 ≤ z → z < 2 ^ m → k.wrap z = z) (hm : m ≤ k.bits) (hx : 0 ≤ x ∧ x < 2 ^ m) (hy : 0 ≤ y ∧ y < 2 ^ m) : (binOp .or t (.int k x) (.int k y)).run P w = .ok (.int k ((x.toNat ||| y.toNat : Nat) : Int)) w := by
  have hlt := Nat.or_lt_two_pow (natlt hx.1 hx.2) (natlt hy.1 hy.2)
  have e := hw ((x.toNat ||| y.toNat : Nat) : Int) (Int.natCast_nonneg _) (by exact_mod_cast hlt)
  simp [binOp, Op.intBits, BitVec.toNat_or, ofInt_toNat hx.1 (lift2 hm hx.2), ofInt_toNat hy.1 (lift2 hm hy.2), e]
theorem op_and {m : Nat} (k : IntKind) (x y : Int) (hw : ∀ z : Int, 0 ≤ z → z < 2 ^ m → k.wrap z = z) (hm : m ≤ k.bits) (hx : 0 ≤ x ∧ x < 2 ^ m) (hy : 0 ≤ y ∧ y < 2 ^ m) : (binOp .and t (.int k x) (.int k y)).run P w = .ok (.int k ((x.toNat &&& y.toNat : Nat) : Int)) w := by
  have hlt := Nat.and_lt_two_pow (x := x.toNat) (natlt hy.1 hy.2)
  have e := hw ((x.toNat &&& y.toNat : Nat) : Int) (Int.natCast_nonneg _) (by exact_mod_cast hlt)
  simp [binOp, Op.intBits, BitVec.toNat_and, ofInt_toNat hx.1 (lift2 hm hx.2), ofInt_toNat hy.1 (lift2 hm hy.2), e]
theorem rd_bits_xor_u16 {c : Int} (h : xorN 16 a b = some c) (hx : evo env x = some (.int .u16 a)) (hy : evo env y = some (.int .u16 b)) : Rd P n env ⟨d, .binOp .xor t x y t', ty, pos, af, g⟩ w (.int .u16 c) :=
  rd_bits (m := 16) op_xor (fun z h0 h1 => by rw [IntKind.wrap_u16]; omega) (by decide) h hx hy
theorem rd_bits_xor_u32 {c : Int} (h : xorN 32 a b = some c) (hx : evo env x = some (.int .u32 a)) (hy : evo env y = some (.int .u32 b)) : Rd P n env ⟨d, .binOp .xor t x y t', ty, pos, af, g⟩ w (.int .u32 c) :=
  rd_bits (m := 32) op_xor (fun z h0 h1 => by rw [IntKind.wrap_u32]; omega) (by decide) h hx hy
theorem rd_bits_xor_u64 {c : Int} (h : xorN 63 a b = some c) (hx : evo env x = some (.int .u64 a)) (hy : evo env y = some (.int .u64 b)) : Rd P n env ⟨d, .binOp .xor t x y t', ty, pos, af, g⟩ w (.int .u64 c) :=
  rd_bits (m := 63) op_xor (fun z h0 h1 => by rw [IntKind.wrap_u64]; omega) (by decide) h hx hy
theorem rd_bits_xor_i64 {c : Int} (h : xorN 63 a b = some c) (hx : evo env x = some (.int .i64 a)) (hy : evo env y = some (.int .i64 b)) : Rd P n env ⟨d, .binOp .xor t x y t', ty, pos, af, g⟩ w (.int .i64 c) :=
  rd_bits (m := 63) op_xor (fun z h0 h1 => by rw [IntKind.wrap_i64]; omega) (by decide) h hx hy
theorem rd_bits_or_u16 {c : Int} (h : orN 16 a b = some c) (hx : evo env x = some (.int .u16 a)) (hy : evo env y = some (.int .u16 b)) : Rd P n env ⟨d, .binOp .or t x y t', ty, pos, af, g⟩ w (.int .u16 c) :=
  rd_bits (m := 16) op_or (fun z h0 h1 => by rw [IntKind.wrap_u16]; omega) (by decide) h hx hy
theorem rd_bits_or_u32 {c : Int} (h : orN 32 a b = some c) (hx : evo env x = some (.int .u32 a)) (hy : evo env y = some (.int .u32 b)) : Rd P n env ⟨d, .binOp .or t x y t', ty, pos, af, g⟩ w (.int .u32 c) :=
  rd_bits (m := 32) op_or (fun z h0 h1 => by rw [IntKind.wrap_u32]; omega) (by decide) h hx hy
theorem rd_bits_or_u64 {c : Int} (h : orN 63 a b = some c) (hx : evo env x = some (.int .u64 a)) (hy : evo env y = some (.int .u64 b)) : Rd P n env ⟨d, .binOp .or t x y t', ty, pos, af, g⟩ w (.int .u64 c) :=
  rd_bits (m := 63) op_or (fun z h0 h1 => by rw [IntKind.wrap_u64]; omega) (by decide) h hx hy
theorem rd_bits_or_i64 {c : Int} (h : orN 63 a b = some c) (hx : evo env x = some (.int .i64 a)) (hy : evo env y = some (.int .i64 b)) : Rd P n env ⟨d, .binOp .or t x y t', ty, pos, af, g⟩ w (.int .i64 c) :=
  rd_bits (m := 63) op_or (fun z h0 h1 => by rw [IntKind.wrap_i64]; omega) (by decide) h hx hy
theorem rd_bits_and_u16 {c : Int} (h : andN 16 a b = some c) (hx : evo env x = some (.int .u16 a)) (hy : evo env y = some (.int .u16 b)) : Rd P n env ⟨d, .binOp .and t x y t', ty, pos, af, g⟩ w (.int .u16 c) :=
  rd_bits (m := 16) op_and (fun z h0 h1 => by rw [IntKind.wrap_u16]; omega) (by decide) h hx hy
theorem rd_bits_and_u32 {c : Int} (h : andN 32 a b = some c) (hx : evo env x = some (.int .u32 a)) (hy : evo env y = some (.int .u32 b)) : Rd P n env ⟨d, .binOp .and t x y t', ty, pos, af, g⟩ w (.int .u32 c) :=
  rd_bits (m := 32) op_and (fun z h0 h1 => by rw [IntKind.wrap_u32]; omega) (by decide) h hx hy
theorem rd_bits_and_u64 {c : Int} (h : andN 63 a b = some c) (hx : evo env x = some (.int .u64 a)) (hy : evo env y = some (.int .u64 b)) : Rd P n env ⟨d, .binOp .and t x y t', ty, pos, af, g⟩ w (.int .u64 c) :=
  rd_bits (m := 63) op_and (fun z h0 h1 => by rw [IntKind.wrap_u64]; omega) (by decide) h hx hy
theorem rd_bits_and_i64 {c : Int} (h : andN 63 a b = some c) (hx : evo env x = some (.int .i64 a)) (hy : evo env y = some (.int .i64 b)) : Rd P n env ⟨d, .binOp .and t x y t', ty, pos, af, g⟩ w (.int .i64 c) :=
  rd_bits (m := 63) op_and (fun z h0 h1 => by rw [IntKind.wrap_i64]; omega) (by decide) h hx hy
theorem rd_xor8 {a b : UInt8} (hx : evo env x = some (.int .u8 (a.toNat : Int))) (hy : evo env y = some (.int .u8 (b.toNat : Int))) : Rd P n env ⟨d, .binOp .xor t x y t', ty, pos, af, g⟩ w (.int .u8 ((a ^^^ b).toNat : Int)) := by
  have ha := a.toNat_lt
  have hb := b.toNat_lt
  have := rd_bits (P := P) (n := n) (env := env) (w := w) (d := d) (ty := ty) (pos := pos) (af := af) (g := g) (t := t) (t' := t') (m := 8) (k := .u8) (f := (· ^^^ ·)) op_xor (fun z h0 h1 => by rw [IntKind.wrap_u8]; omega) (by decide)
    (show bitN (· ^^^ ·) 8 (a.toNat : Int) (b.toNat : Int) = some _ from if_pos ⟨⟨by omega, by omega⟩, by omega, by omega⟩) hx hy
  rw [UInt8.toNat_xor]
  simpa using this
theorem rd_shl (hy0 : 0 ≤ b) {kk : IntKind} (hx : evo env x = some (.int k a)) (hy : evo env y = some (.int kk b)) : Rd P n env ⟨d, .binOp .shl t x y t', ty, pos, af, g⟩ w (.int k (k.wrap (a * 2 ^ (min b.toNat k.bits)))) :=
  rd_bin hx hy guard_int (by simp [binOp, Op.shift, show ¬ b < 0 by omega])
theorem rd_shr (hy0 : 0 ≤ b) {kk : IntKind} (hx : evo env x = some (.int k a)) (hy : evo env y = some (.int kk b)) : Rd P n env ⟨d, .binOp .shr t x y t', ty, pos, af, g⟩ w (.int k (a.fdiv (2 ^ (min b.toNat k.bits)))) :=
  rd_bin hx hy guard_int (by simp [binOp, Op.shift, show ¬ b < 0 by omega])
theorem rd_shl_u16 {c : Int} {kk : IntKind} (h : shl_u16 a b = some c) (hx : evo env x = some (.int .u16 a)) (hy : evo env y = some (.int kk b)) : Rd P n env ⟨d, .binOp .shl t x y t', ty, pos, af, g⟩ w (.int .u16 c) := by
  unfold shl_u16 shlW at h
  split at h
  · rename_i h0
    have := os h; subst this
    have := rd_shl (P := P) (n := n) (w := w) (d := d) (ty := ty) (pos := pos) (af := af) (g := g) (t := t) (t' := t') h0 hx hy
    rwa [IntKind.wrap_u16] at this
  · cases h
theorem rd_shr_u16 {c : Int} {kk : IntKind} (h : shr_u16 a b = some c) (hx : evo env x = some (.int .u16 a)) (hy : evo env y = some (.int kk b)) : Rd P n env ⟨d, .binOp .shr t x y t', ty, pos, af, g⟩ w (.int .u16 c) := by
  unfold shr_u16 shrW at h
  split at h
  · rename_i h0
    have := os h; subst this
    exact rd_shr (P := P) (n := n) (w := w) (d := d) (ty := ty) (pos := pos) (af := af) (g := g) (t := t) (t' := t') h0 hx hy
  · cases h
theorem rd_shl_u32 {c : Int} {kk : IntKind} (h : shl_u32 a b = some c) (hx : evo env x = some (.int .u32 a)) (hy : evo env y = some (.int kk b)) : Rd P n env ⟨d, .binOp .shl t x y t', ty, pos, af, g⟩ w (.int .u32 c) := by
  unfold shl_u32 shlW at h
  split at h
  · rename_i h0
    have := os h; subst this
    have := rd_shl (P := P) (n := n) (w := w) (d := d) (ty := ty) (pos := pos) (af := af) (g := g) (t := t) (t' := t') h0 hx hy
    rwa [IntKind.wrap_u32] at this
  · cases h
theorem rd_shr_u32 {c : Int} {kk : IntKind} (h : shr_u32 a b = some c) (hx : evo env x = some (.int .u32 a)) (hy : evo env y = some (.int kk b)) : Rd P n env ⟨d, .binOp .shr t x y t', ty, pos, af, g⟩ w (.int .u32 c) := by
  unfold shr_u32 shrW at h
  split at h
  · rename_i h0
    have := os h; subst this
    exact rd_shr (P := P) (n := n) (w := w) (d := d) (ty := ty) (pos := pos) (af := af) (g := g) (t := t) (t' := t') h0 hx hy
  · cases h
theorem rd_shl_u64 {c : Int} {kk : IntKind} (h : shl_u64 a b = some c) (hx : evo env x = some (.int .u64 a)) (hy : evo env y = some (.int kk b)) : Rd P n env ⟨d, .binOp .shl t x y t', ty, pos, af, g⟩ w (.int .u64 c) := by
  unfold shl_u64 shlW at h
  split at h
  · rename_i h0
    have := os h; subst this
    have := rd_shl (P := P) (n := n) (w := w) (d := d) (ty := ty) (pos := pos) (af := af) (g := g) (t := t) (t' := t') h0 hx hy
    rwa [IntKind.wrap_u64] at this
  · cases h
theorem rd_shr_u64 {c : Int} {kk : IntKind} (h : shr_u64 a b = some c) (hx : evo env x = some (.int .u64 a)) (hy : evo env y = some (.int kk b)) : Rd P n env ⟨d, .binOp .shr t x y t', ty, pos, af, g⟩ w (.int .u64 c) := by
  unfold shr_u64 shrW at h
  split at h
  · rename_i h0
    have := os h; subst this
    exact rd_shr (P := P) (n := n) (w := w) (d := d) (ty := ty) (pos := pos) (af := af) (g := g) (t := t) (t' := t') h0 hx hy
  · cases h
theorem rd_shr_i64 {c : Int} {kk : IntKind} (h : shr_i64 a b = some c) (hx : evo env x = some (.int .i64 a)) (hy : evo env y = some (.int kk b)) : Rd P n env ⟨d, .binOp .shr t x y t', ty, pos, af, g⟩ w (.int .i64 c) := by
  unfold shr_i64 shrW at h
  split at h
  · rename_i h0
    have := os h; subst this
    exact rd_shr (P := P) (n := n) (w := w) (d := d) (ty := ty) (pos := pos) (af := af) (g := g) (t := t) (t' := t') h0 hx hy
  · cases h
theorem rd_shl_i64 {c : Int} {kk : IntKind} (h : shl_i64 a b = some c) (hx : evo env x = some (.int .i64 a)) (hy : evo env y = some (.int kk b)) : Rd P n env ⟨d, .binOp .shl t x y t', ty, pos, af, g⟩ w (.int .i64 c) := by
  unfold shl_i64 at h
  split at h
  · rename_i h0
    obtain ⟨rfl, hw⟩ := in64_some h
    have := rd_shl (P := P) (n := n) (w := w) (d := d) (ty := ty) (pos := pos) (af := af) (g := g) (t := t) (t' := t') h0 hx hy
    have hw' : IntKind.i64.wrap (a * 2 ^ (min b.toNat IntKind.i64.bits)) = a * 2 ^ (min b.toNat 64) := hw
    rwa [hw'] at this
  · cases h
theorem rd_shl_u8 {c : UInt8} {kk : IntKind} (h : shl_u8 a b = some c) (hx : evo env x = some (.int .u8 a)) (hy : evo env y = some (.int kk b)) : Rd P n env ⟨d, .binOp .shl t x y t', ty, pos, af, g⟩ w (.int .u8 (c.toNat : Int)) := by
  unfold shl_u8 at h
  split at h
  · rename_i h0
    have := os h; subst this
    have := rd_shl (P := P) (n := n) (w := w) (d := d) (ty := ty) (pos := pos) (af := af) (g := g) (t := t) (t' := t') h0 hx hy
    rw [IntKind.wrap_u8, ← toU8_toNat] at this
    exact this
  · cases h
theorem rd_shr_u8 {c : UInt8} {kk : IntKind} {a : UInt8} (h : shr_u8 (a.toNat : Int) b = some c) (hx : evo env x = some (.int .u8 (a.toNat : Int))) (hy : evo env y = some (.int kk b)) : Rd P n env ⟨d, .binOp .shr t x y t', ty, pos, af, g⟩ w (.int .u8 (c.toNat : Int)) := by
  unfold shr_u8 at h
  split at h
  · rename_i h0
    have := os h; subst this
    have := rd_shr (P := P) (n := n) (w := w) (d := d) (ty := ty) (pos := pos) (af := af) (g := g) (t := t) (t' := t') h0 hx hy
    rw [toU8_toNat]
    have hlt := a.toNat_lt
    have hb : ((a.toNat : Int).fdiv (2 ^ (min b.toNat 8))) = ((a.toNat / 2 ^ (min b.toNat 8) : Nat) : Int) := by
      have e : (2 ^ (min b.toNat 8) : Int) = ((2 ^ (min b.toNat 8) : Nat) : Int) := by simp
      rw [e, Int.fdiv_eq_ediv_of_nonneg _ (Int.natCast_nonneg _), Int.natCast_ediv]
    have h8 : (IntKind.bits .u8) = 8 := rfl
    rw [h8, hb] at this
    have hq := Nat.div_le_self a.toNat (2 ^ (min b.toNat 8))
    rw [hb, Int.emod_eq_of_lt (Int.natCast_nonneg _) (by omega)]
    exact this
  · cases h
theorem rd_add_u16 (hx : evo env x = some (.int .u16 a)) (hy : evo env y = some (.int .u16 b)) : Rd P n env ⟨d, .binOp .add t x y t', ty, pos, af, g⟩ w (.int .u16 ((a + b) % 65536)) := by
  have := rd_add (P := P) (n := n) (w := w) (d := d) (ty := ty) (pos := pos) (af := af) (g := g) (t := t) (t' := t') hx hy
  rwa [IntKind.wrap_u16] at this
theorem rd_add_u32 (hx : evo env x = some (.int .u32 a)) (hy : evo env y = some (.int .u32 b)) : Rd P n env ⟨d, .binOp .add t x y t', ty, pos, af, g⟩ w (.int .u32 ((a + b) % 4294967296)) := by
  have := rd_add (P := P) (n := n) (w := w) (d := d) (ty := ty) (pos := pos) (af := af) (g := g) (t := t) (t' := t') hx hy
  rwa [IntKind.wrap_u32] at this
theorem rd_add_u64 (hx : evo env x = some (.int .u64 a)) (hy : evo env y = some (.int .u64 b)) : Rd P n env ⟨d, .binOp .add t x y t', ty, pos, af, g⟩ w (.int .u64 ((a + b) % 18446744073709551616)) := by
  have := rd_add (P := P) (n := n) (w := w) (d := d) (ty := ty) (pos := pos) (af := af) (g := g) (t := t) (t' := t') hx hy
  rwa [IntKind.wrap_u64] at this
theorem rd_sub_u16 (hx : evo env x = some (.int .u16 a)) (hy : evo env y = some (.int .u16 b)) : Rd P n env ⟨d, .binOp .sub t x y t', ty, pos, af, g⟩ w (.int .u16 ((a - b) % 65536)) := by
  have := rd_sub (P := P) (n := n) (w := w) (d := d) (ty := ty) (pos := pos) (af := af) (g := g) (t := t) (t' := t') hx hy
  rwa [IntKind.wrap_u16] at this
theorem rd_sub_u32 (hx : evo env x = some (.int .u32 a)) (hy : evo env y = some (.int .u32 b)) : Rd P n env ⟨d, .binOp .sub t x y t', ty, pos, af, g⟩ w (.int .u32 ((a - b) % 4294967296)) := by
  have := rd_sub (P := P) (n := n) (w := w) (d := d) (ty := ty) (pos := pos) (af := af) (g := g) (t := t) (t' := t') hx hy
  rwa [IntKind.wrap_u32] at this
theorem rd_sub_u64 (hx : evo env x = some (.int .u64 a)) (hy : evo env y = some (.int .u64 b)) : Rd P n env ⟨d, .binOp .sub t x y t', ty, pos, af, g⟩ w (.int .u64 ((a - b) % 18446744073709551616)) := by
  have := rd_sub (P := P) (n := n) (w := w) (d := d) (ty := ty) (pos := pos) (af := af) (g := g) (t := t) (t' := t') hx hy
  rwa [IntKind.wrap_u64] at this
theorem rd_mul_u16 (hx : evo env x = some (.int .u16 a)) (hy : evo env y = some (.int .u16 b)) : Rd P n env ⟨d, .binOp .mul t x y t', ty, pos, af, g⟩ w (.int .u16 ((a * b) % 65536)) := by
  have := rd_mul (P := P) (n := n) (w := w) (d := d) (ty := ty) (pos := pos) (af := af) (g := g) (t := t) (t' := t') hx hy
  rwa [IntKind.wrap_u16] at this
theorem rd_mul_u32 (hx : evo env x = some (.int .u32 a)) (hy : evo env y = some (.int .u32 b)) : Rd P n env ⟨d, .binOp .mul t x y t', ty, pos, af, g⟩ w (.int .u32 ((a * b) % 4294967296)) := by
  have := rd_mul (P := P) (n := n) (w := w) (d := d) (ty := ty) (pos := pos) (af := af) (g := g) (t := t) (t' := t') hx hy
  rwa [IntKind.wrap_u32] at this
theorem rd_mul_u64 (hx : evo env x = some (.int .u64 a)) (hy : evo env y = some (.int .u64 b)) : Rd P n env ⟨d, .binOp .mul t x y t', ty, pos, af, g⟩ w (.int .u64 ((a * b) % 18446744073709551616)) := by
  have := rd_mul (P := P) (n := n) (w := w) (d := d) (ty := ty) (pos := pos) (af := af) (g := g) (t := t) (t' := t') hx hy
  rwa [IntKind.wrap_u64] at this

/-! strings -/
theorem bs_size (l : List UInt8) : (bs l).size = l.length := by simp [bs, ByteArray.size]
theorem rd_lenst {l : List UInt8} (ht : P.underlying t = some .string) (hx : evo env x = some (.string (bs l))) : Rd P n env ⟨d, .call { callee := .builtin .len, args := #[x], argTypes := #[t] }, ty, pos, af, g⟩ w (.int .i64 (l.length : Int)) := by
  have := rd_lens (n := n) (w := w) (d := d) (ty := ty) (pos := pos) (af := af) (g := g) ht hx
  rwa [bs_size] at this
theorem bs_inj {a b : List UInt8} : bs a = bs b ↔ a = b := by
  constructor
  · intro h
    have : (bs a).data = (bs b).data := by rw [h]
    simpa [bs] using this
  · rintro rfl; rfl
theorem rd_cat {a b c : List UInt8} (h : appS a b = some c) (hx : evo env x = some (.string (bs a))) (hy : evo env y = some (.string (bs b))) : Rd P n env ⟨d, .binOp .add t x y t', ty, pos, af, g⟩ w (.string (bs c)) := by
  unfold appS at h
  split at h
  · rename_i hh
    have := os h; subst this
    refine rd_bin hx hy guard_string ?_
    have e : bs a ++ bs b = bs (a ++ b) := by
      apply ByteArray.ext
      simp [bs, ByteArray.data_append]
    have hle : ¬ (((a.length + b.length : Nat) : Int) > IntKind.i64.max) := by
      have : IntKind.i64.max = 9223372036854775807 := by decide
      rw [this]; omega
    simp only [binOp, Op.stringOp, bs_size, e]
    rw [if_neg hle]; rfl
  · cases h
theorem rd_eqst {a b : List UInt8} (hx : evo env x = some (.string (bs a))) (hy : evo env y = some (.string (bs b))) : Rd P n env ⟨d, .binOp .eql t x y t', ty, pos, af, g⟩ w (.bool (decide (a = b))) :=
  rd_bin hx hy guard_string (by simp only [binOp, Op.stringOp, bs, ByteArray.toList_eq, Sem.run_pure, (show ∀ a b : List UInt8, (a == b) = decide (a = b) from fun a b => by rw [Bool.eq_iff_iff]; simp)])
theorem rd_neqst {a b : List UInt8} (hx : evo env x = some (.string (bs a))) (hy : evo env y = some (.string (bs b))) : Rd P n env ⟨d, .binOp .neq t x y t', ty, pos, af, g⟩ w (.bool (!decide (a = b))) :=
  rd_bin hx hy guard_string (by simp only [binOp, Op.stringOp, bs, ByteArray.toList_eq, Sem.run_pure, (show ∀ a b : List UInt8, (a == b) = decide (a = b) from fun a b => by rw [Bool.eq_iff_iff]; simp)])

/-! lists that are only read from now on -/
def roL {α : Type} [Rep α] (v : Value) (l : List α) : Chunk where
  D := fun g => v.ownBlock = some g
  φ := fun w => Sl (fun g => v.ownBlock = some g) w v l ∧ ∀ g, v.ownBlock = some g → g < w.heap.size
  loc := fun w w' h hφ => ⟨hφ.1.mono fun g hg => ⟨hg, h g hg⟩, fun g hg => by
    have h1 := h g hg
    have h2 := hφ.2 g hg
    rw [Array.getElem?_eq_getElem h2] at h1
    exact (Array.getElem?_eq_some_iff.1 h1).1⟩
  lt := fun w hφ g hg => hφ.2 g hg
section
variable {α : Type} [Rep α] {l : List α}
theorem Mem.ro (hm : Mem w0 T L w) (k : Nat) (hk : L[k]? = some (roL v l)) : Sl (roL v l).D w v l := (hm.get hk).1
theorem Mem.ro_call (hm : Mem w0 T L w) (k : Nat) (hk : L[k]? = some (roL v l)) : Sl (Old w No) w v l := (hm.ro k hk).mono fun g hg => ⟨⟨(roL v l).lt w (hm.get hk) g hg, id⟩, rfl⟩
theorem Mem.ro_callT (hm : Mem w0 T L w) (k j : Nat) {c : Chunk} (hk : L[k]? = some (roL v l)) (hj : L[j]? = some c) (hne : k ≠ j) : Sl (Old w c.D) w v l :=
  (hm.ro k hk).mono fun g hg => ⟨⟨(roL v l).lt w (hm.get hk) g hg, pairwise_at disj_symm hm.disj hk hj hne g hg⟩, rfl⟩
end
theorem sl_freeze {α : Type} [Flat α] {R : Nat → Prop} {l : List α} {p : Addr} {m : Nat} (h : Sl R w v l) : Sl R (w.freeze p m) v l := by
  obtain ⟨A, c, hv, hc, hA, hi⟩ := h
  refine ⟨A, c, hv, hc, hA, fun i x hx => ?_⟩
  obtain ⟨hR, cs, hrep, hcell⟩ := hi i x hx
  refine ⟨hR, cs, hrep, fun j u hu => ?_⟩
  have h0 := hcell j u hu
  rw [← h0]
  unfold World.freeze
  split
  · rfl
  · unfold World.cell?
    simp only [Array.getElem?_modify]
    by_cases hb : p.block = pB v
    · rw [if_pos hb]
      cases hg : w.heap[pB v]? with
      | none => rfl
      | some o => cases o <;> rfl
    · rw [if_neg hb]
theorem Chg.freeze (p : Addr) (m : Nat) : Chg (fun k => k = p.block) w (w.freeze p m) := by
  unfold World.freeze
  split
  · exact Chg.refl _ _
  · exact ⟨rfl, rfl, rfl, by simp, fun g hg hne => by
      simp only [Array.getElem?_modify]
      rw [if_neg (fun e => hne e.symm)]⟩

theorem ef_mark {α : Type} [Flat α] {e k : Nat} {l : List α} (hm : Mem w0 T L w) (ht : TSlice P t e (Flat.sz α)) (he : P.underlying e = some (.int .u8)) (hx : evo env x = some v) (hk : L[k]? = some (ownL e v l)) (hne : Nat.blt 0 l.length = true) :
    Ef P n env ⟨d, .convert t t x, ty, pos, af, g⟩ w (fun u w' => u = v ∧ Mem w0 T (L.set k (roL v l)) w') := fun a ha next Q hn => by
  have hown : w.ownsRow 0 e (Flat.sz α) v l.length (l.flatMap Flat.enc) := hm.get hk
  have hne' : 0 < l.length := Nat.le_of_ble_eq_true hne
  rcases hown.2 with ⟨_, h0⟩ | ⟨b, cap, cur, hv, _, hg, _⟩
  · omega
  · have hsh : w.shape? b = some (e, cur.size) := by simp [World.shape?, hg]
    have hr : (execOp a.eval ⟨d, .convert t t x, ty, pos, af, g⟩).run P w = .ok (.value v) (w.freeze ⟨b, cur.size, none⟩ 1) := by
      have e1 := ha.eval hx
      generalize a.eval = ρ at e1 ⊢
      rw [hv] at e1
      rw [hv]
      simp [execOp, e1, convert, run_underlying ht.1, run_underlying he, markStringish, hsh]
    unfold Oper.wp
    rw [hr]
    have hob : v.ownBlock = some b := by rw [hv]; rfl
    refine hn _ _ ⟨rfl, hm.upd hk ((Chg.freeze _ _).mono fun g hg => ?_) ⟨?_, fun g hg => ?_⟩ (fun g hg => .inl hg)⟩
    · show v.ownBlock = some g
      rw [hob]; exact congrArg some hg.symm
    · exact sl_freeze (sl_of_own (hm.get hk))
    · have := (ownL e v l).lt w (hm.get hk) g hg
      exact Nat.lt_of_lt_of_le this (Chg.freeze (w := w) ⟨b, cur.size, none⟩ 1).size

theorem rowI {β : Type} {hs : List Hdr} {ls : List β} {i : Int} {l : β} (h : hs.length = ls.length) (hl : idx ls i = some l) : ∃ z : Hdr, idx hs i = some z := by
  obtain ⟨h0, h1, h2⟩ := idx_some hl
  have hlt : i.toNat < hs.length := by rw [h]; omega
  exact ⟨hs[i.toNat], by unfold idx; rw [if_pos h0, List.getElem?_eq_getElem hlt]⟩

theorem ef_makec {α : Type} [Flat α] {e bytes : Nat} {n' c' : Int} {z : α} {zv : Value} {l : List α} (hm : Mem w0 T L w) (ht : TSlice P t e (Flat.sz α)) (he : TElem P e (Flat.sz α) bytes zv) (hz : zv.cells.toList = Flat.enc z)
    (hx : evo env x = some (.int .i64 n')) (hy : evo env y = some (.int .i64 c')) (hl : mkC bytes n' c' z = some l) :
    Ef P n env ⟨d, .makeSlice t x y, ty, pos, af, g⟩ w (fun v w' => Mem w0 T (ownL e v l :: L) w') := fun a ha next Q hn => by
  obtain ⟨i, hi, hsz, hby, hzz⟩ := he.ex
  unfold mkC at hl
  split at hl
  case isFalse => cases hl
  case isTrue hc =>
    obtain ⟨h0, hnc, hb, h63⟩ := hc
    have hl' := os hl
    subst hl'
    have hr := run_make (P := P) w t e i zv ht.1 hi hzz .i64 .i64 n' c' h0 hnc (by rw [hby]; exact hb) h63
    have hex : (execOp a.eval ⟨d, .makeSlice t x y, ty, pos, af, g⟩).run P w = .ok (.value (.slice (some ⟨w.heap.size, 0, none⟩) n'.toNat c'.toNat)) (w.alloc (.cells (madeCells zv.cells (c'.toNat * i.size)) e)) := by
      have e1 := ha.eval hx
      have e2 := ha.eval hy
      generalize a.eval = ρ at e1 e2 ⊢
      simp [execOp, e1, e2, hr]
    unfold Oper.wp
    rw [hex]
    have hzc : zv.cells = (Flat.enc z).toArray := by rw [← hz]
    refine hn _ _ (hm.add (Chg.alloc _ _ _) ?_ own_new_D)
    have hcs : (madeCells zv.cells (c'.toNat * i.size)).toList = (List.replicate c'.toNat z).flatMap Flat.enc := by rw [flat_rep, hzc, hsz]
    have hle : n'.toNat ≤ c'.toNat := by omega
    refine ⟨flat_len _, .inr ⟨w.heap.size, c'.toNat, _, by rw [List.length_replicate], Nat.zero_le _, heap_alloc_new w _, by rw [List.length_replicate]; exact hle, by simp [maxLen]; omega, ?_, ?_⟩⟩
    · rw [← Array.length_toList, hcs, flat_len, List.length_replicate]
    · have hsplit : List.replicate c'.toNat z = List.replicate n'.toNat z ++ List.replicate (c'.toNat - n'.toNat) z := by rw [List.replicate_append_replicate]; congr 1; omega
      rw [hcs, hsplit, List.flatMap_append, List.take_append_of_le_length (by rw [flat_len]; exact Nat.le_refl _), List.take_of_length_le (by rw [flat_len]; exact Nat.le_refl _)]

/-! an append behind which the list as it was is read, too -/
theorem append_old {e bytes : Nat} {i : TypeInfo} {z : Value} (ht : P.underlying t = some (.slice e)) (hi : P.info? e = some i) (hz : i.zero = some z) (hby : i.bytes = bytes)
    {v v' : Value} {n : Nat} {xs : List Value} (hown : w.ownsRow 0 e i.size v n xs) {A : Addr} {m c : Nat} {news : List Value} (hl : news.length = m * i.size) (hnews : ∀ j u, news[j]? = some u → w.cell? (A.add j) = some u) (h1 : ∀ u ∈ news, u.oneCell' = true)
    (h63 : n + m ≤ maxLen) (hbytes : (n + m) * bytes ≤ 140737488355328) {w' : World} (hr : (Builtin.append_ #[t, t] ty #[v, .slice (some A) m c]).run P w = .ok v' w') :
    v.ownBlock = none ∨ v'.ownBlock = v.ownBlock ∨ ∀ k, k < w.heap.size → w'.heap[k]? = w.heap[k]? := by
  have hsmall : n + m ≤ 9223372036854775807 := by simp only [maxLen] at h63; omega
  rcases hown.2 with ⟨rfl, rfl⟩ | ⟨g, cap, cur, rfl, hbg, hg, hnc, hcm, hcs, htake⟩
  · exact .inl rfl
  · by_cases hroom : n + m ≤ cap
    · have hfit : n * i.size + news.length ≤ cur.size := by rw [hl, hcs, ← Nat.add_mul]; exact Nat.mul_le_mul_right _ hroom
      have hr' := run_append_room (P := P) w t ty e i ht hi g n cap cur hg A m c news hl hnews h1 hroom hfit
      rw [hr'] at hr
      injection hr with e1 e2
      exact .inr (.inl (by rw [← e1]; rfl))
    · have holds : ∀ j u, xs[j]? = some u → w.cell? ((⟨g, 0, none⟩ : Addr).add j) = some u := hown.cells (g := g) rfl
      have hr' := run_append_grow (P := P) w t ty e i z ht hi hz ⟨g, 0, none⟩ n cap xs hown.1 holds A m c news hl hnews (by omega) (by omega) (growslice_fits (by omega) (by rw [hby]; exact hbytes))
      rw [hr'] at hr
      injection hr with e1 e2
      exact .inr (.inr fun k hk => by rw [← e2]; exact heap_alloc_old w.drew _ hk)

def ro2L {α : Type} [Rep α] (v : Value) (l : List α) (v' : Value) (l' : List α) : Chunk where
  D := fun g => v.ownBlock = some g ∨ v'.ownBlock = some g
  φ := fun w => Sl (fun g => v.ownBlock = some g ∨ v'.ownBlock = some g) w v l ∧ Sl (fun g => v.ownBlock = some g ∨ v'.ownBlock = some g) w v' l' ∧ ∀ g, (v.ownBlock = some g ∨ v'.ownBlock = some g) → g < w.heap.size
  loc := fun w w' h hφ => ⟨hφ.1.mono fun g hg => ⟨hg, h g hg⟩, hφ.2.1.mono fun g hg => ⟨hg, h g hg⟩, fun g hg => by
    have h1 := h g hg
    have h2 := hφ.2.2 g hg
    rw [Array.getElem?_eq_getElem h2] at h1
    exact (Array.getElem?_eq_some_iff.1 h1).1⟩
  lt := fun w hφ g hg => hφ.2.2 g hg
section
variable {α : Type} [Rep α] {l l' : List α} {v' : Value}
theorem Mem.roa (hm : Mem w0 T L w) (k : Nat) (hk : L[k]? = some (ro2L v l v' l')) : Sl (ro2L v l v' l').D w v l := (hm.get hk).1
theorem Mem.roa_call (hm : Mem w0 T L w) (k : Nat) (hk : L[k]? = some (ro2L v l v' l')) : Sl (Old w No) w v l := (hm.roa k hk).mono fun g hg => ⟨⟨(ro2L v l v' l').lt w (hm.get hk) g hg, id⟩, rfl⟩
theorem Mem.roa_callT (hm : Mem w0 T L w) (k j : Nat) {c : Chunk} (hk : L[k]? = some (ro2L v l v' l')) (hj : L[j]? = some c) (hne : k ≠ j) : Sl (Old w c.D) w v l :=
  (hm.roa k hk).mono fun g hg => ⟨⟨(ro2L v l v' l').lt w (hm.get hk) g hg, pairwise_at disj_symm hm.disj hk hj hne g hg⟩, rfl⟩
theorem Mem.rob (hm : Mem w0 T L w) (k : Nat) (hk : L[k]? = some (ro2L v l v' l')) : Sl (ro2L v l v' l').D w v' l' := (hm.get hk).2.1
theorem Mem.rob_call (hm : Mem w0 T L w) (k : Nat) (hk : L[k]? = some (ro2L v l v' l')) : Sl (Old w No) w v' l' := (hm.rob k hk).mono fun g hg => ⟨⟨(ro2L v l v' l').lt w (hm.get hk) g hg, id⟩, rfl⟩
theorem Mem.rob_callT (hm : Mem w0 T L w) (k j : Nat) {c : Chunk} (hk : L[k]? = some (ro2L v l v' l')) (hj : L[j]? = some c) (hne : k ≠ j) : Sl (Old w c.D) w v' l' :=
  (hm.rob k hk).mono fun g hg => ⟨⟨(ro2L v l v' l').lt w (hm.get hk) g hg, pairwise_at disj_symm hm.disj hk hj hne g hg⟩, rfl⟩
end

theorem sl_of_own_pre {α : Type} [Flat α] {e : Nat} {v v' : Value} {l lx : List α} {c : Nat} {A : Addr} (h : (ownL e v' (l ++ lx)).φ w) (hv : v = .slice (some A) l.length c) (hA : A.spot = none ∧ A.off = 0) (hc : l.length ≤ c) (hb : v'.ownBlock = some A.block) : Sl (fun g => v'.ownBlock = some g) w v l := by
  subst hv
  obtain ⟨A', c', hv', hc', hA', hi⟩ := sl_of_own h
  refine ⟨some A, c, rfl, hc, fun _ => ⟨A.block, A.off, by cases A; simp_all⟩, fun i x hx => ?_⟩
  have hx' : (l ++ lx)[i]? = some x := by rw [List.getElem?_append_left (List.getElem?_eq_some_iff.1 hx).1]; exact hx
  obtain ⟨hR, cs, hrep, hcell⟩ := hi i x hx'
  have h' : w.ownsRow 0 e (Flat.sz α) v' (l ++ lx).length ((l ++ lx).flatMap Flat.enc) := h
  rcases h'.2 with ⟨h1, _⟩ | ⟨g, cap, cur, h1, _⟩
  · rw [h1] at hb; simp [Value.ownBlock] at hb
  · have e1 : pB v' = g := by rw [h1]; rfl
    have e2 : pO v' = 0 := by rw [h1]; rfl
    have e3 : g = A.block := by rw [h1] at hb; simpa [Value.ownBlock] using hb
    rw [e1, e2, e3] at hcell
    refine ⟨hb, cs, hrep, ?_⟩
    show CellsAt w A.block (A.off + i * Rep.sz α) cs
    rw [hA.2]
    exact hcell

theorem ef_append2 {α : Type} [Flat α] {e bytes k : Nat} {z : Value} {l lx l' : List α} {vx : Value} {R : Nat → Prop} (hm : Mem w0 T L w) (ht : TSlice P t e (Flat.sz α)) (he : TElem P e (Flat.sz α) bytes z) (hzs : z.cells.size = Flat.sz α) (hk : L[k]? = some (ownL e v l))
    (hx : evo env x = some v) (hy : evo env y = some vx) (hs : Sl R w vx lx) (hl : app bytes l lx = some l') :
    Ef P n env ⟨d, .call { callee := .builtin .append, args := #[x, y], argTypes := #[t, t] }, ty, pos, af, g⟩ w (fun v' w' => Mem w0 T (L.set k (ro2L v l v' l')) w') := fun a ha next Q hn => by
  obtain ⟨i, hi, hsz, hby, hzz⟩ := he.ex
  have e1 := ha.eval hx
  have e2 := ha.eval hy
  have hown : w.ownsRow 0 e (Flat.sz α) v l.length (l.flatMap Flat.enc) := hm.get hk
  -- what the plain law says, and where its result lies
  have key : ∀ v' w', (execOp a.eval ⟨d, .call { callee := .builtin .append, args := #[x, y], argTypes := #[t, t] }, ty, pos, af, g⟩).run P w = .ok (.value v') w' → (ownL e v' l').φ w' → Chg (ownL e v l).D w w' → (v.ownBlock = none ∨ v'.ownBlock = v.ownBlock ∨ ∀ k, k < w.heap.size → w'.heap[k]? = w.heap[k]?) → (∀ g, v'.ownBlock = some g → v.ownBlock = some g ∨ w.heap.size ≤ g) →
      next (a.put d v') w' := fun v' w' _ hφ hc hq h5 => by
    refine hn _ _ (hm.upd hk hc ⟨?_, (sl_of_own hφ).mono fun g hg => ⟨.inr hg, rfl⟩, ?_⟩ fun g hg => hg.elim .inl (h5 g))
    · rcases hown.2 with ⟨hv, h0⟩ | ⟨b, cap, cur, hv, _, hg, hnc, _⟩
      · have : l = [] := List.eq_nil_of_length_eq_zero h0
        subst this
        rw [hv]
        exact Sl.nil _ _
      · rcases hq with h | h | h
        · rw [hv] at h; simp [Value.ownBlock] at h
        · have hl2 : l' = l ++ lx := by
            unfold app at hl
            split at hl
            · exact os hl
            · cases hl
          subst hl2
          exact (sl_of_own_pre hφ hv ⟨rfl, rfl⟩ hnc (by rw [h, hv]; rfl)).mono fun g hg => ⟨.inr hg, rfl⟩
        · exact (sl_of_own (hm.get hk)).mono fun g hg => ⟨.inl hg, h g ((ownL e v l).lt w (hm.get hk) g hg)⟩
    · rintro g (hg | hg)
      · exact Nat.lt_of_lt_of_le ((ownL e v l).lt w (hm.get hk) g hg) hc.size
      · exact (ownL e v' l').lt w' hφ g hg
  have hex : ∀ v' w', (Builtin.append_ #[t, t] ty #[v, vx]).run P w = .ok v' w' →
      (execOp a.eval ⟨d, .call { callee := .builtin .append, args := #[x, y], argTypes := #[t, t] }, ty, pos, af, g⟩).run P w = .ok (.value v') w' := fun v' w' hr => by
    generalize a.eval = ρ at e1 e2 ⊢
    simp [execOp, resolve, invoke, builtin, e1, e2, hr]
  unfold app at hl
  split at hl
  case isFalse => cases hl
  case isTrue hb =>
    have hl' := os hl
    subst hl'
    obtain ⟨A, c, rfl, hc, hA, hel⟩ := hs
    by_cases hne : lx = []
    · subst hne
      have hr : (Builtin.append_ #[t, t] ty #[v, .slice A 0 c]).run P w = .ok v w := by
        rcases hown.2 with ⟨rfl, _⟩ | ⟨g, cap, cur, rfl, _, _, hnc, _⟩
        · cases A <;> simp [Builtin.append_, run_underlying ht.1, sizeOf, typeInfo, hi, Builtin.lenOf, Builtin.firstCells, loadCells, loadCellsFrom]
        · cases A <;> simp [Builtin.append_, run_underlying ht.1, sizeOf, typeInfo, hi, Builtin.lenOf, Builtin.firstCells, hnc, storeCells, loadCells, loadCellsFrom]
      have hx := hex v w (by simpa using hr)
      unfold Oper.wp
      rw [hx]
      exact key v w hx (by rw [List.append_nil]; exact hm.get hk) (Chg.refl _ _) (.inr (.inl rfl)) fun g hg => .inl hg
    · obtain ⟨b, o, rfl⟩ := hA hne
      have hnews : ∀ j u, (lx.flatMap Flat.enc)[j]? = some u → w.cell? ((⟨b, o, none⟩ : Addr).add j) = some u := by
        intro j u hu
        have hjl : j < lx.length * Flat.sz α := by
          rw [← flat_len lx]; exact (List.getElem?_eq_some_iff.1 hu).1
        have hpos : 0 < Flat.sz α := Flat.pos
        have hq : j / Flat.sz α < lx.length := Nat.div_lt_of_lt_mul (by rw [Nat.mul_comm]; exact hjl)
        have hm' : j % Flat.sz α < Flat.sz α := Nat.mod_lt _ hpos
        obtain ⟨_, cs, hrep, hcell⟩ := hel (j / Flat.sz α) _ (List.getElem?_eq_getElem hq)
        have hcs : cs = Flat.enc lx[j / Flat.sz α] := hrep
        subst hcs
        have hu2 : (Flat.enc lx[j / Flat.sz α])[j % Flat.sz α]? = some ((Flat.enc lx[j / Flat.sz α])[j % Flat.sz α]'(by rw [Flat.len]; exact hm')) := List.getElem?_eq_getElem _
        have h1 := flat_get lx (j / Flat.sz α) _ (j % Flat.sz α) _ (List.getElem?_eq_getElem hq) hu2
        have e3 : j / Flat.sz α * Flat.sz α + j % Flat.sz α = j := by rw [Nat.mul_comm]; exact Nat.div_add_mod _ _
        rw [e3] at h1
        rw [h1] at hu
        injection hu with hu
        subst hu
        have h2 := hcell (j % Flat.sz α) _ hu2
        have hadd : (⟨b, o, none⟩ : Addr).add j = ⟨b, o + j, none⟩ := by unfold Addr.add; split <;> simp_all
        rw [hadd, ← h2]
        congr 2
        show o + j = o + j / Flat.sz α * Flat.sz α + j % Flat.sz α
        omega
      have h1n : ∀ u ∈ lx.flatMap (Flat.enc (α := α)), u.oneCell' = true := fun u hu => by obtain ⟨y, _, hy⟩ := List.mem_flatMap.1 hu; exact Flat.one y u hy
      obtain ⟨v', w', hrun, h2, h3, _, h5⟩ := run_append_own_at (P := P) w 0 t ty e i z (Flat.sz α) bytes ht.1 hi hzz hsz hby hzs Flat.pos v l.length (l.flatMap Flat.enc) hown ⟨b, o, none⟩ lx.length c (lx.flatMap Flat.enc) (flat_len lx) hnews
        h1n (by simp only [maxLen]; omega) hb.1 (Nat.zero_le _)
      have hx := hex v' w' hrun
      have hold := append_old (P := P) (w := w) (bytes := bytes) ht.1 hi hzz hby (by rw [hsz]; exact hown) (by rw [hsz]; exact flat_len lx) hnews h1n (by simp only [maxLen]; omega) hb.1 hrun
      unfold Oper.wp
      rw [hx]
      refine key v' w' hx ?_ ((Chg.of_grown h3).mono fun g hg => hg) hold fun g hg => ?_
      · show w'.ownsRow 0 e (Flat.sz α) v' (l ++ lx).length ((l ++ lx).flatMap Flat.enc)
        rw [List.length_append, List.flatMap_append]
        exact h2
      · rcases h5 with h | h
        · exact .inl (by rw [← h]; exact hg)
        · rw [h] at hg
          injection hg with hg
          exact .inr (by omega)
end
end Go.Gv
namespace Go.Gv
open Go.RowKit
/-! maps from whole numbers -/
class MV (β : Type) where
  val : β → Value
instance : MV Int := ⟨fun x => .int .i64 x⟩
instance : MV Bool := ⟨fun x => .bool x⟩

def mapC {β : Type} [MV β] (b : Nat) (m : List (Int × β)) : Chunk where
  D := fun k => k = b
  φ := fun w => ∃ es clock, w.heap[b]? = some (.map es clock) ∧ es.toList.map (fun e => (e.key, e.val)) = m.map (fun p => (Value.int .i64 p.1, MV.val p.2))
  loc := fun w w' h hφ => by
    obtain ⟨es, cl, h1, h2⟩ := hφ
    exact ⟨es, cl, (h b rfl).trans h1, h2⟩
  lt := fun w hφ k hk => by
    obtain ⟨es, cl, h1, h2⟩ := hφ
    subst hk
    exact (Array.getElem?_eq_some_iff.1 h1).1

theorem find_m {β : Type} [MV β] {kk : IntKind} (k : Int) : ∀ (l : List MapEntry) (m : List (Int × β)) (i : Nat), l.map (fun e => (e.key, e.val)) = m.map (fun p => (Value.int .i64 p.1, MV.val p.2)) →
    (mget m k = none ∧ Instr.findNow (.int kk) (.int .i64 k) l i = some none ∧ ∀ v, mset m k v = m ++ [(k, v)]) ∨
    ∃ j x e, mget m k = some x ∧ Instr.findNow (.int kk) (.int .i64 k) l i = some (some (i + j, MV.val x)) ∧ l[j]? = some e ∧ e.key = .int .i64 k ∧ ∀ v, mset m k v = m.set j (k, v)
  | [], m, i, h => by
    have : m = [] := by cases m <;> simp_all
    subst this
    exact .inl ⟨rfl, rfl, fun _ => rfl⟩
  | e :: l, [], i, h => by simp at h
  | e :: l, p :: m, i, h => by
    simp only [List.map_cons, List.cons.injEq, Prod.mk.injEq] at h
    obtain ⟨⟨hk, hv⟩, ht⟩ := h
    by_cases hp : p.1 = k
    · refine .inr ⟨0, p.2, e, by simp [mget, hp], ?_, rfl, by rw [hk, hp], fun v => by simp [mset, hp]⟩
      simp [Instr.findNow, hk, Instr.sameNow, hp, hv]
    · have hne : ¬ k = p.1 := fun h => hp h.symm
      have hstep : Instr.findNow (.int kk) (.int .i64 k) (e :: l) i = Instr.findNow (.int kk) (.int .i64 k) l (i + 1) := by
        have hb : (k == p.1) = false := by simpa using hne
        simp [Instr.findNow, hk, Instr.sameNow, hb]
      rcases find_m (kk := kk) k l m (i + 1) ht with ⟨h1, h2, h3⟩ | ⟨j, x, e', h1, h2, h3, h4, h5⟩
      · exact .inl ⟨by simp [mget, hp, h1], by rw [hstep, h2], fun v => by simp [mset, hp, h3]⟩
      · exact .inr ⟨j + 1, x, e', by simp [mget, hp, h1], by rw [hstep, h2]; simp; omega, by simpa using h3, h4, fun v => by simp [mset, hp, h5]⟩

section
variable {P : Program} {n : Nat} {env : Env} {w w0 : World} {T : Nat → Prop} {L : List Chunk} {d : Option Nat} {ty : TypeId} {pos : String} {af : Array Edge} {g : Option (Nat × Bool)} {x y z : Operand} {v u : Value} {t : TypeId} {β : Type} [MV β] {b kt et : Nat} {m : List (Int × β)} {k : Int} {kk : IntKind}

def TMap (P : Program) (t kt et : Nat) (zv : Value) : Prop := P.underlying t = some (.map kt et) ∧ (∃ kk, P.underlying kt = some (.int kk)) ∧ (P.info? et).map (·.zero) = some (some zv)

theorem ef_makeMap (hm : Mem w0 T L w) (β : Type) [MV β] : Ef P n env ⟨d, .makeMap t none, ty, pos, af, g⟩ w (fun v w' => ∃ b, v = .map (some b) ∧ Mem w0 T (mapC b ([] : List (Int × β)) :: L) w') := fun a ha next Q hn => by
  have hr : (execOp a.eval ⟨d, .makeMap t none, ty, pos, af, g⟩).run P w = .ok (.value (.map (some w.heap.size))) (w.alloc (.map #[] 0)) := by
    simp [execOp, Instr.makeMap]
  unfold Oper.wp
  rw [hr]
  refine hn _ _ ⟨_, rfl, hm.add (Chg.alloc _ _ _) ⟨#[], 0, heap_alloc_new w _, rfl⟩ fun g hg => ?_⟩
  have : g = w.heap.size := hg
  omega

theorem run_lookup {zv : Value} (ht : TMap P t kt et zv) (hφ : (mapC b m).φ w) (ok : Bool) : (Instr.lookup t (.map (some b)) (.int .i64 k) ok).run P w = .ok (if ok then .tuple #[((mget m k).map MV.val).getD zv, .bool (mget m k).isSome] else ((mget m k).map MV.val).getD zv) w := by
  obtain ⟨hu, ⟨kk, hk⟩, hz⟩ := ht
  obtain ⟨es, cl, hb, hes⟩ := hφ
  obtain ⟨i, hi, hzi⟩ := map_some hz
  have hck : (Instr.checkKey es.isEmpty 10000 kt (.int .i64 k)).run P w = .ok () w := by
    show (Instr.checkKey es.isEmpty (9999 + 1) kt (.int .i64 k)).run P w = .ok () w
    unfold Instr.checkKey
    simp [run_underlying hk]
  rcases find_m (kk := kk) k es.toList m 0 hes with ⟨h1, h2, _⟩ | ⟨j, x, e, h1, h2, _⟩
  · have hf : (Instr.findKey kt (.int .i64 k) es.toList).run P w = .ok none w := by simp [Instr.findKey, run_underlying hk, h2]
    simp [Instr.lookup, run_underlying hu, getObj, Sem.run, hb, hck, hf, zeroValue, typeInfo, hi, hzi, h1]
  · have hf : (Instr.findKey kt (.int .i64 k) es.toList).run P w = .ok (some (0 + j, MV.val x)) w := by simp [Instr.findKey, run_underlying hk, h2]
    simp [Instr.lookup, run_underlying hu, getObj, Sem.run, hb, hck, hf, h1]
theorem rd_lookup {zv : Value} (ht : TMap P t kt et zv) (hφ : (mapC b m).φ w) (hx : evo env x = some (.map (some b))) (hy : evo env y = some (.int .i64 k)) :
    Rd P n env ⟨d, .lookup t x y false, ty, pos, af, g⟩ w (((mget m k).map MV.val).getD zv) := rd_mk fun ρ hρ => by
  have h := run_lookup (P := P) (k := k) ht hφ false
  simp only [Bool.false_eq_true, if_false] at h
  simp only [execOp, hρ _ _ hx, hρ _ _ hy, Sem.run_bind, h, Result.andThen_ok, Sem.run_pure]
theorem rd_lookup2 {zv : Value} (ht : TMap P t kt et zv) (hφ : (mapC b m).φ w) (hx : evo env x = some (.map (some b))) (hy : evo env y = some (.int .i64 k)) :
    Rd P n env ⟨d, .lookup t x y true, ty, pos, af, g⟩ w (.tuple #[((mget m k).map MV.val).getD zv, .bool (mget m k).isSome]) := rd_mk fun ρ hρ => by
  have h := run_lookup (P := P) (k := k) ht hφ true
  simp only [if_true] at h
  simp only [execOp, hρ _ _ hx, hρ _ _ hy, Sem.run_bind, h, Result.andThen_ok, Sem.run_pure]
theorem mvB {o : Option Bool} : (o.map MV.val).getD (.bool false) = .bool (o.getD false) := by cases o <;> rfl
theorem mvI {o : Option Int} : (o.map MV.val).getD (.int .i64 0) = .int .i64 (o.getD 0) := by cases o <;> rfl

theorem run_mapUpdate {zv : Value} (ht : TMap P t kt et zv) (hφ : (mapC b m).φ w) (vx : β) : ∃ es' cl', (Instr.mapUpdate t (.map (some b)) (.int .i64 k) (MV.val vx)).run P w = .ok () { w with heap := w.heap.setIfInBounds b (.map es' cl') } ∧ es'.toList.map (fun e => (e.key, e.val)) = (mset m k vx).map (fun p => (Value.int .i64 p.1, MV.val p.2)) := by
  obtain ⟨hu, ⟨kk, hk⟩, hz⟩ := ht
  obtain ⟨es, cl, hb, hes⟩ := hφ
  have hck : (Instr.checkKey false 10000 kt (.int .i64 k)).run P w = .ok () w := by
    show (Instr.checkKey false (9999 + 1) kt (.int .i64 k)).run P w = .ok () w
    unfold Instr.checkKey
    simp [run_underlying hk]
  rcases find_m (kk := kk) k es.toList m 0 hes with ⟨h1, h2, h3⟩ | ⟨j, x, e, h1, h2, h3, h4, h5⟩
  · have hf : (Instr.findKey kt (.int .i64 k) es.toList).run P w = .ok none w := by simp [Instr.findKey, run_underlying hk, h2]
    refine ⟨es.push { key := .int .i64 k, val := MV.val vx, born := cl }, cl + 1, ?_, ?_⟩
    · simp [Instr.mapUpdate, run_underlying hu, getObj, setObj, Sem.run, hb, hck, hf]
    · rw [h3]; simp [hes]
  · have hf : (Instr.findKey kt (.int .i64 k) es.toList).run P w = .ok (some (0 + j, MV.val x)) w := by simp [Instr.findKey, run_underlying hk, h2]
    have h3' : es[j]? = some e := by simpa using h3
    refine ⟨es.modify j fun e => { e with key := .int .i64 k, val := MV.val vx }, cl, ?_, ?_⟩
    · simp [Instr.mapUpdate, run_underlying hu, getObj, setObj, Sem.run, hb, hck, hf, h3', h4, Instr.keyThatStays, Instr.sameBits]
    · rw [h5, List.map_set, ← hes]
      apply List.ext_getElem?
      intro q
      simp only [List.getElem?_map, Array.toList_modify, List.getElem?_modify, List.getElem?_set, List.length_map, Array.length_toList]
      by_cases hq : j = q
      · subst hq
        have hlt : j < es.size := (Array.getElem?_eq_some_iff.1 h3').1
        simp [hlt]
      · simp [hq]

theorem ef_mapUpdate {zv : Value} {kq : Nat} (hm : Mem w0 T L w) (ht : TMap P t kt et zv) (hk : L[kq]? = some (mapC b m)) (vx : β) (hz : evo env z = some (.map (some b))) (hx : evo env x = some (.int .i64 k)) (hy : evo env y = some (MV.val vx)) :
    Ef P n env ⟨d, .mapUpdate t z x y, ty, pos, af, g⟩ w (fun _ w' => Mem w0 T (L.set kq (mapC b (mset m k vx))) w') := fun a ha next Q hn => by
  obtain ⟨es', cl', hr, hes⟩ := run_mapUpdate (k := k) ht (hm.get hk) vx
  have e1 := ha.eval hz
  have e2 := ha.eval hx
  have e3 := ha.eval hy
  have hex : (execOp a.eval ⟨d, .mapUpdate t z x y, ty, pos, af, g⟩).run P w = .ok .skip { w with heap := w.heap.setIfInBounds b (.map es' cl') } := by
    generalize a.eval = ρ at e1 e2 e3 ⊢
    simp only [execOp, e1, e2, e3, Sem.run_bind, hr, Result.andThen_ok, Sem.run_pure]
  unfold Oper.wp
  rw [hex]
  have hlt : b < w.heap.size := (mapC b m).lt w (hm.get hk) b rfl
  refine hn undef _ (hm.upd hk ⟨rfl, rfl, rfl, by simp, fun q hq hne => ?_⟩ ⟨es', cl', by simp [hlt], hes⟩ fun q hq => .inl hq)
  have : ¬ b = q := fun e => hne e.symm
  simp [this]

/-! arrays of whole numbers -/
theorem rd_idxa {e N : Nat} {l : List Int} {kj kv : IntKind} {j r : Int} (ht : P.underlying t = some (.array N e)) (he : TOne P e) (hN : l.length = N) (hx : evo env x = some (.agg (l.map (Value.int kv)).toArray)) (hy : evo env y = some (.int kj j)) (hj : idx l j = some r) :
    Rd P n env ⟨d, .index t x y, ty, pos, af, g⟩ w (.int kv r) := rd_mk fun ρ hρ => by
  obtain ⟨h0, h1, h2⟩ := idx_some hj
  have hs := run_sizeOf_t (P := P) (w := w) he.2
  have ha := run_isAgg_f (P := P) (w := w) he
  have hlt : j < (N : Int) := by omega
  simp [execOp, hρ _ _ hx, hρ _ _ hy, Instr.index, asIntOf, run_underlying ht, h0, hlt, hs, part, ha, h2]
end

/-! function values -/
section
variable {P : Program} {n : Nat} {env : Env} {w w0 : World} {T : Nat → Prop} {L : List Chunk} {d : Option Nat} {ty : TypeId} {pos : String} {af : Array Edge} {g : Option (Nat × Bool)}
/-- A call through a value that holds a function and what it has captured. -/
theorem ef_callv {f : Nat} {c : Operand} {as : List Operand} {at_ : Array TypeId} {vs cb : List Value} {R : Value → World → Prop} (ht : TFn P f) (hc : evo env c = some (.func (.func f) #[] cb.toArray)) (ha : evl env as = some vs) (h : CallsR P f (vs ++ cb) w R) :
    Ef P n env ⟨d, .call { callee := .value c, args := as.toArray, argTypes := at_ }, ty, pos, af, g⟩ w R := fun a hag next Q hn => by
  have hm := evl_map (fun x v hx => hag.eval hx) ha
  have h1 := hag.eval hc
  have hr : (execOp a.eval ⟨d, .call { callee := .value c, args := as.toArray, argTypes := at_ }, ty, pos, af, g⟩).run P w = .ok (.enter f (vs ++ cb).toArray) w := by
    obtain ⟨fn, c, hf, hb, hnm⟩ := ht
    have hnm' : ¬ fn.name = "runtime.NumGoroutine" := by simpa using hnm
    generalize a.eval = ρ at hm h1 ⊢
    simp [execOp, resolve, invoke, Deferred.ofValue, callFunc, h1, hm, go_sem, hf, hb, hnm']
  unfold Oper.wp
  rw [hr]
  exact Calls.mono h fun e w' ⟨v, he, hR⟩ => by subst he; exact hn v w' hR
theorem rd_makeFunc {f : Nat} {cs : List Operand} {vs : List Value} (ha : evl env cs = some vs) : Rd P n env ⟨d, .makeFunc (.func f) #[] cs.toArray, ty, pos, af, g⟩ w (.func (.func f) #[] vs.toArray) := fun a hag => by
  have hm := evl_map (fun x v hx => hag.eval hx) ha
  generalize a.eval = ρ at hm ⊢
  simp [execOp, Instr.makeFunc, hm, go_sem]
end
/-- A box that holds a list's header reads as a list of one list. -/
theorem sl_box {α : Type} [Rep α] {R : Nat → Prop} {w : World} {gn : Nat} {vl : Value} {l : List α} (hR : R gn) (hc : CellsAt w gn 0 [vl]) (hs : Sl R w vl l) : Sl R w (.slice (some ⟨gn, 0, none⟩) 1 1) [l] := by
  refine ⟨some ⟨gn, 0, none⟩, 1, rfl, Nat.le_refl _, fun _ => ⟨gn, 0, rfl⟩, fun i x hx => ?_⟩
  cases i with
  | succ i => simp at hx
  | zero =>
    simp at hx
    subst hx
    exact ⟨hR, [vl], ⟨vl, rfl, hs⟩, fun j u hu => by
      have := hc j u hu
      simpa [pB, pO] using this⟩
theorem Mem.box_call {α : Type} [Rep α] {w0 w : World} {T : Nat → Prop} {L : List Chunk} {gn t : Nat} {vl : Value} {l : List α} (hm : Mem w0 T L w) (k : Nat) (hk : L[k]? = some (Gv.blk gn t [vl])) (hs : Sl (Old w No) w vl l) : Sl (Old w No) w (.slice (some ⟨gn, 0, none⟩) 1 1) [l] :=
  sl_box ⟨(Gv.blk gn t [vl]).lt w (hm.get hk) gn rfl, id⟩ (hm.blk k hk) hs
theorem Mem.box_callT {α : Type} [Rep α] {w0 w : World} {T : Nat → Prop} {L : List Chunk} {gn t : Nat} {vl : Value} {l : List α} {c : Chunk} (hm : Mem w0 T L w) (k j : Nat) (hk : L[k]? = some (Gv.blk gn t [vl])) (hj : L[j]? = some c) (hne : k ≠ j) (hs : Sl (Old w c.D) w vl l) : Sl (Old w c.D) w (.slice (some ⟨gn, 0, none⟩) 1 1) [l] :=
  sl_box ⟨(Gv.blk gn t [vl]).lt w (hm.get hk) gn rfl, pairwise_at disj_symm hm.disj hk hj hne gn rfl⟩ (hm.blk k hk) hs

/-! a list that is the argument's at first, and one of its own later; it is only read -/
def oldL {α : Type} [Rep α] (w0 : World) (T : Nat → Prop) (v : Value) (l : List α) : Chunk where
  D := fun _ => False
  φ := fun _ => Sl (Old w0 T) w0 v l
  loc := fun _ _ _ h => h
  lt := fun _ _ _ h => h.elim
def mixL {α : Type} [Rep α] (w0 : World) (T : Nat → Prop) (b : Bool) (v : Value) (l : List α) : Chunk := match b with
  | true => roL v l
  | false => oldL w0 T v l
section
variable {α : Type} {w0 w : World} {T : Nat → Prop} {L : List Chunk} {v : Value} {l : List α} {b : Bool}
theorem Mem.mix_call [Rep α] (hm : Mem w0 T L w) (k : Nat) (hk : L[k]? = some (mixL w0 T b v l)) : Sl (Old w No) w v l := by
  cases b with
  | true => exact hm.ro_call k hk
  | false => exact Sl.to_call (hm.get hk) hm
theorem Mem.mix_callT [Rep α] (hm : Mem w0 T L w) (k j : Nat) {c : Chunk} (hk : L[k]? = some (mixL w0 T b v l)) (hj : L[j]? = some c) (hne : k ≠ j) : Sl (Old w c.D) w v l := by
  cases b with
  | true => exact hm.ro_callT k j hk hj hne
  | false => exact Sl.to_callT (hm.get hk) hm hj
theorem Mem.addMix [Rep α] (hm : Mem w0 T L w) (h : Sl (Old w0 T) w0 v l) : Mem w0 T (mixL w0 T false v l :: L) w :=
  hm.add (Chg.refl _ _) h (fun _ hg => hg.elim)
theorem Mem.ownMix [Flat α] {e k : Nat} (hm : Mem w0 T L w) (hk : L[k]? = some (ownL e v l)) : Mem w0 T (L.set k (mixL w0 T true v l)) w :=
  hm.upd hk (Chg.refl _ _) ⟨sl_of_own (hm.get hk), fun g hg => (ownL e v l).lt w (hm.get hk) g hg⟩ (fun _ hg => .inl hg)
end
end Go.Gv
/-! full slices: the front with its own end as capacity; an append to it makes a new list -/
namespace Go.Gv
open Go.RowKit
def subC (v : Value) (hi : Int) : Value :=
  match v with
  | .slice A _ _ => .slice (if hi.toNat = 0 then A else A.map (·.add 0)) hi.toNat hi.toNat
  | v => v
theorem add_zero_addr (b o : Nat) : (⟨b, o, none⟩ : Addr).add 0 = ⟨b, o, none⟩ := by unfold Addr.add; split <;> simp_all
theorem Sl.subC {α : Type} [Rep α] {R : Nat → Prop} {w : World} {v : Value} {l l' : List α} {hi : Int} (h : Sl R w v l) (hs : slc l 0 hi = some l') : Sl R w (Gv.subC v hi) l' ∧ ∃ A, Gv.subC v hi = .slice A l'.length l'.length := by
  obtain ⟨h0, h1, h2, rfl⟩ := slc_some hs
  obtain ⟨A, c, rfl, hc, hA, hi'⟩ := h
  have hlen : ((l.take hi.toNat).drop (0 : Int).toNat).length = hi.toNat := by simp; omega
  refine ⟨⟨_, hi.toNat, by rw [hlen]; rfl, by rw [hlen]; exact Nat.le_refl _, fun hne => ?_, fun i x hx => ?_⟩, _, by rw [hlen]; rfl⟩
  · have : l ≠ [] := by rintro rfl; simp at hne
    obtain ⟨b, o, rfl⟩ := hA this
    split
    · exact ⟨b, o, rfl⟩
    · exact ⟨b, o, by rw [Option.map_some, add_zero_addr]⟩
  · have hil : i < hi.toNat := by
      rw [← hlen]; exact (List.getElem?_eq_some_iff.1 hx).1
    have hx' : l[i]? = some x := by
      rw [List.getElem?_drop, List.getElem?_take] at hx
      simp only [Int.toNat_zero, Nat.zero_add] at hx
      rw [if_pos hil] at hx; exact hx
    obtain ⟨hR, cs, hrep, hcell⟩ := hi' _ _ hx'
    have hne : l ≠ [] := by rintro rfl; simp at hx'
    obtain ⟨b, o, rfl⟩ := hA hne
    have e : Gv.subC (.slice (some ⟨b, o, none⟩) l.length c) hi = .slice (some ⟨b, o, none⟩) hi.toNat hi.toNat := by
      simp only [Gv.subC, Option.map_some, add_zero_addr, ite_self]
    rw [e]
    exact ⟨hR, cs, hrep, hcell⟩
section
variable {P : Program} {n : Nat} {ops : Array Oper} {env : Env} {w w0 : World} {T : Nat → Prop} {L : List Chunk} {t ty : TypeId} {x y xh : Operand} {v : Value} {d : Option Nat} {pos : String} {af : Array Edge} {g : Option (Nat × Bool)}
theorem rd_slcC {α : Type} [Rep α] {e : Nat} {R : Nat → Prop} {w1 : World} {l l' : List α} {hi : Int} (ht : TSlice P t e (Rep.sz α)) (hx : evo env x = some v) (hh : evo env xh = some (.int .i64 hi)) (hm : evo env y = some (.int .i64 hi)) (hv : Sl R w1 v l) (hs : slc l 0 hi = some l') :
    Rd P n env ⟨d, .slice t x none (some xh) (some y), ty, pos, af, g⟩ w (subC v hi) := rd_mk fun ρ hρ => by
  have e1 := hρ _ _ hx
  have e2 := hρ _ _ hh
  have e3 := hρ _ _ hm
  obtain ⟨h0, h1, h2, rfl⟩ := slc_some hs
  obtain ⟨A, c, rfl, hc, hA, _⟩ := hv
  have hsz := run_sizeOf_t (P := P) (w := w) ht.2
  have hhc : hi ≤ (c : Int) := by omega
  have hh0 : 0 ≤ hi := by omega
  have hb1 : (Instr.sliceBound (.int .i64 hi) c .slice3Acap).run P w = .ok hi.toNat w := by
    simp [Instr.sliceBound, asIntOf, hh0, hhc]
  have hb2 : (Instr.sliceBound (.int .i64 hi) hi.toNat .slice3B).run P w = .ok hi.toNat w := by
    have : hi ≤ (hi.toNat : Int) := by omega
    simp only [Instr.sliceBound, asIntOf, Sem.run_bind, Sem.run_pure, Result.andThen_ok, hh0, this, and_self, if_true]
  have hB : (Instr.sliceBounds true l.length c none (some (.int .i64 hi)) (some (.int .i64 hi))).run P w = .ok (0, hi.toNat, hi.toNat) w := by
    simp [Instr.sliceBounds, hb1, hb2]
  simp [execOp, e1, e2, e3, Instr.sliceAt, Instr.slice, run_underlying ht.1, hB, hsz, subC]
theorem sl_news {α : Type} [Flat α] {R : Nat → Prop} {b o c : Nat} {lx : List α} (hs : Sl R w (.slice (some ⟨b, o, none⟩) lx.length c) lx) : ∀ j u, (lx.flatMap Flat.enc)[j]? = some u → w.cell? ((⟨b, o, none⟩ : Addr).add j) = some u := by
  obtain ⟨_, _, _, _, _, hel⟩ := hs
  intro j u hu
  have hjl : j < lx.length * Flat.sz α := by
    rw [← flat_len lx]; exact (List.getElem?_eq_some_iff.1 hu).1
  have hpos : 0 < Flat.sz α := Flat.pos
  have hq : j / Flat.sz α < lx.length := Nat.div_lt_of_lt_mul (by rw [Nat.mul_comm]; exact hjl)
  have hm' : j % Flat.sz α < Flat.sz α := Nat.mod_lt _ hpos
  obtain ⟨_, cs, hrep, hcell⟩ := hel (j / Flat.sz α) _ (List.getElem?_eq_getElem hq)
  have hcs : cs = Flat.enc lx[j / Flat.sz α] := hrep
  subst hcs
  have hu2 : (Flat.enc lx[j / Flat.sz α])[j % Flat.sz α]? = some ((Flat.enc lx[j / Flat.sz α])[j % Flat.sz α]'(by rw [Flat.len]; exact hm')) := List.getElem?_eq_getElem _
  have h1 := flat_get lx (j / Flat.sz α) _ (j % Flat.sz α) _ (List.getElem?_eq_getElem hq) hu2
  have e3 : j / Flat.sz α * Flat.sz α + j % Flat.sz α = j := by rw [Nat.mul_comm]; exact Nat.div_add_mod _ _
  rw [e3] at h1
  rw [h1] at hu
  injection hu with hu
  subst hu
  have h2 := hcell (j % Flat.sz α) _ hu2
  have hadd : (⟨b, o, none⟩ : Addr).add j = ⟨b, o + j, none⟩ := by unfold Addr.add; split <;> simp_all
  rw [hadd, ← h2]
  congr 2
  show o + j = o + j / Flat.sz α * Flat.sz α + j % Flat.sz α
  omega
theorem ef_appendC {α : Type} [Flat α] {e bytes : Nat} {z : Value} {l lx l' : List α} {vx : Value} {R R1 : Nat → Prop} (hm : Mem w0 T L w) (ht : TSlice P t e (Flat.sz α)) (he : TElem P e (Flat.sz α) bytes z) (hzs : z.cells.size = Flat.sz α)
    (hx : evo env x = some v) (hv : Sl R1 w v l ∧ ∃ A, v = .slice A l.length l.length) (hy : evo env y = some vx) (hs : Sl R w vx lx) (hl : appC bytes l lx = some l') :
    Ef P n env ⟨d, .call { callee := .builtin .append, args := #[x, y], argTypes := #[t, t] }, ty, pos, af, g⟩ w (fun v' w' => Mem w0 T (ownL e v' l' :: L) w') := fun a ha next Q hn => by
  obtain ⟨i, hi, hsz, hby, hzz⟩ := he.ex
  have e1 := ha.eval hx
  have e2 := ha.eval hy
  have hex : ∀ v' w', (Builtin.append_ #[t, t] ty #[v, vx]).run P w = .ok v' w' →
      (execOp a.eval ⟨d, .call { callee := .builtin .append, args := #[x, y], argTypes := #[t, t] }, ty, pos, af, g⟩).run P w = .ok (.value v') w' := fun v' w' hr => by
    generalize a.eval = ρ at e1 e2 ⊢
    simp [execOp, resolve, invoke, builtin, e1, e2, hr]
  have hne : lx ≠ [] := by
    rintro rfl; simp [appC] at hl
  have hl2 : app bytes l lx = some l' := by
    unfold appC at hl; rw [if_neg (by simpa using hne)] at hl; exact hl
  unfold app at hl2
  split at hl2
  case isFalse => cases hl2
  case isTrue hb =>
  have hl' := os hl2
  subst hl'
  obtain ⟨A, c, hvx, hc, hA, hel⟩ := id hs
  obtain ⟨b, o, rfl⟩ := hA hne
  subst hvx
  have hnews := sl_news hs
  have hpl : 0 < lx.length := List.length_pos_iff.2 hne
  obtain ⟨hv1, A1, hv2⟩ := hv
  have hzs' : z.cells.size = i.size := by rw [hzs, hsz]
  -- the new block
  have fin : ∀ (k : Nat) (row : Array Value), row.size = grownCap w (l.length + lx.length) k e * Flat.sz α → row.toList.take ((l.length + lx.length) * Flat.sz α) = l.flatMap Flat.enc ++ lx.flatMap Flat.enc →
      next (a.put d (.slice (some ⟨w.heap.size, 0, none⟩) (l.length + lx.length) (grownCap w (l.length + lx.length) k e))) (w.drew.alloc (.cells row e)) := fun k row h1 h2 => by
    have hge := grownCap_ge w (l.length + lx.length) k e
    have hcm : grownCap w (l.length + lx.length) k e ≤ maxLen := grownCap_le_maxLen w (l.length + lx.length) k e (by simp only [maxLen]; omega)
    refine hn _ _ (hm.add (c := ownL e (.slice (some ⟨w.heap.size, 0, none⟩) (l.length + lx.length) (grownCap w (l.length + lx.length) k e)) (l ++ lx)) ⟨rfl, rfl, rfl, by simp, fun q hq _ => heap_alloc_old w.drew _ hq⟩ ?_ own_new_D)
    show World.ownsRow _ 0 e (Flat.sz α) _ (l ++ lx).length ((l ++ lx).flatMap Flat.enc)
    rw [List.length_append, List.flatMap_append]
    exact ⟨by rw [List.length_append, flat_len, flat_len, Nat.add_mul], .inr ⟨w.heap.size, _, _, rfl, Nat.zero_le _, heap_alloc_new w.drew _, hge, hcm, h1, h2⟩⟩
  unfold Oper.wp
  cases A1 with
  | none =>
    have hl0 : l = [] := by
      rcases Classical.em (l = []) with h | h
      · exact h
      · obtain ⟨A2, c2, q1, _, q2, _⟩ := hv1
        obtain ⟨b2, o2, q3⟩ := q2 h
        rw [hv2, q3] at q1; cases q1
    subst hl0
    have hr := run_append_nil (P := P) w t ty e i z ht.1 hi hzz ⟨b, o, none⟩ lx.length c (lx.flatMap Flat.enc) (by rw [hsz]; exact flat_len lx) hnews hpl (by omega) (by rw [hby]; have := hb.1; simp at this; omega)
    rw [hex _ _ (by rw [hv2]; exact hr)]
    have := fin 0 ((lx.flatMap Flat.enc).toArray ++ Builtin.zeroCells z.cells (grownCap w lx.length 0 e - lx.length)) (by
      have hge := grownCap_ge w lx.length 0 e
      simp only [Array.size_append, List.size_toArray, size_zeroCells, hzs, flat_len, ← Nat.add_mul, List.length_nil, Nat.zero_add]
      congr 1; omega) (by
      simp only [Array.toList_append, List.length_nil, Nat.zero_add, List.flatMap_nil, List.nil_append]
      exact List.take_left' (flat_len lx))
    simp only [List.length_nil, Nat.zero_add] at this
    exact this
  | some q =>
    have hr := run_append_grow (P := P) w t ty e i z ht.1 hi hzz q l.length l.length (l.flatMap Flat.enc) (by rw [hsz]; exact flat_len l) (by
        intro j u hu
        have hl0 : l ≠ [] := by rintro rfl; simp at hu
        obtain ⟨A2, c2, q1, _, q2, _⟩ := id hv1
        obtain ⟨b2, o2, rfl⟩ := q2 hl0
        rw [hv2] at q1
        injection q1 with q1 _ q3
        injection q1 with q1
        subst q1
        rw [hv2] at hv1
        exact sl_news hv1 j u hu)
      ⟨b, o, none⟩ lx.length c (lx.flatMap Flat.enc) (by rw [hsz]; exact flat_len lx) hnews (by omega) (by omega) (growslice_fits (by omega) (by rw [hby]; exact hb.1))
    rw [hex _ _ (by rw [hv2]; exact hr)]
    refine fin l.length _ ?_ ?_
    · have hge := grownCap_ge w (l.length + lx.length) l.length e
      simp only [Array.size_append, List.size_toArray, size_zeroCells, hzs, flat_len, ← Nat.add_mul]
      congr 1; omega
    · simp only [Array.toList_append]
      exact List.take_left' (by rw [List.length_append, flat_len, flat_len, Nat.add_mul])
/-- a list out of an array of lists -/
theorem Rows.get {α : Type} [Rep α] {R : Nat → Prop} {hs : List Hdr} {ls : List (List α)} (h : Rows R w hs ls) {i : Int} {z : Hdr} {l : List α} (hz : idx hs i = some z) (hl : idx ls i = some l) : Sl R w z.1 l := h.2 _ z l (idx_some hz).2.2 (idx_some hl).2.2
theorem agg_cast {cs1 cs2 : Array Value} (h : evo env x = some (.agg cs1)) (e : cs2 = cs1) : evo env x = some (.agg cs2) := by rw [e]; exact h
theorem rd_idxh {e N : Nat} {hs : List Hdr} {kj : IntKind} {j : Int} {z : Hdr} (ht : P.underlying t = some (.array N e)) (he : TOne P e) (hN : hs.length = N) (hx : evo env x = some (.agg (hs.map (·.1)).toArray)) (hy : evo env y = some (.int kj j)) (hj : idx hs j = some z) :
    Rd P n env ⟨d, .index t x y, ty, pos, af, g⟩ w z.1 := rd_mk fun ρ hρ => by
  obtain ⟨h0, h1, h2⟩ := idx_some hj
  have hs' := run_sizeOf_t (P := P) (w := w) he.2
  have ha := run_isAgg_f (P := P) (w := w) he
  have hlt : j < (N : Int) := by omega
  simp [execOp, hρ _ _ hx, hρ _ _ hy, Instr.index, asIntOf, run_underlying ht, h0, hlt, hs', part, ha, h2]
end
end Go.Gv

/-! several parts of memory as one; boxes of a caller -/
namespace Go.Gv
open Go.RowKit
theorem idx_set_same {α : Type} {l : List α} {i : Int} {x y : α} (h : idx l i = some x) : idx (l.set i.toNat y) i = some y := by
  obtain ⟨h0, h1, _⟩ := idx_some h
  unfold idx
  rw [if_pos h0, List.getElem?_set]
  have : i.toNat < l.length := by omega
  simp [this]
section
variable {P : Program} {n : Nat} {ops : Array Oper} {Q : Exit → Env → World → Prop} {S : World → Prop} {T : Nat → Nat} {fuel : Nat} {listed : Array Bool} {env : Env} {w : World}
theorem s_br4 {i j m q : Nat} (hr : Region.ready .any ops listed = [i, j, m, q]) (h1 : RWe P n ops Q S T fuel listed i env w) (h2 : RWe P n ops Q S T fuel listed j env w) (h3 : RWe P n ops Q S T fuel listed m env w) (h4 : RWe P n ops Q S T fuel listed q env w) : RWs P n ops Q S T (fuel + 1) listed env w := fun a ha =>
  ⟨(fun h0 => by rw [hr] at h0; cases h0), fun k hk => by
    rw [hr] at hk
    simp only [List.mem_cons, List.not_mem_nil, or_false] at hk
    rcases hk with rfl | rfl | rfl | rfl
    · exact h1 a ha
    · exact h2 a ha
    · exact h3 a ha
    · exact h4 a ha⟩
end
def bunD : List Chunk → Nat → Prop
  | [], _ => False
  | c :: L, g => c.D g ∨ bunD L g
theorem bunD_iff : ∀ {L : List Chunk} {g : Nat}, bunD L g ↔ ∃ c ∈ L, c.D g
  | [], g => by simp [bunD]
  | c :: L, g => by
    show c.D g ∨ bunD L g ↔ _
    rw [bunD_iff]
    constructor
    · rintro (h | ⟨c', h1, h2⟩)
      · exact ⟨c, List.mem_cons_self, h⟩
      · exact ⟨c', List.mem_cons_of_mem _ h1, h2⟩
    · rintro ⟨c', h1, h2⟩
      rcases List.mem_cons.1 h1 with rfl | h1
      · exact .inl h2
      · exact .inr ⟨c', h1, h2⟩
def bunC (L : List Chunk) : Chunk where
  D := bunD L
  φ := fun w => (∀ c ∈ L, c.φ w) ∧ L.Pairwise fun (c c' : Chunk) => ∀ g : Nat, c.D g → ¬ c'.D g
  loc := fun w w' h hφ => ⟨fun c hc => c.loc w w' (fun g hg => h g (bunD_iff.2 ⟨c, hc, hg⟩)) (hφ.1 c hc), hφ.2⟩
  lt := fun w hφ g hg => by
    obtain ⟨c, hc, h⟩ := bunD_iff.1 hg
    exact c.lt w (hφ.1 c hc) g h
section
variable {w0 w : World} {T : Nat → Prop} {L La Lb : List Chunk}
theorem Mem.opened (h : (bunC L).φ w) : Mem w (bunC L).D L w := ⟨Chg.refl _ _, h.1, fun c hc _ hg => .inr (bunD_iff.2 ⟨c, hc, hg⟩), h.2⟩
theorem Mem.bundle (La Lb : List Chunk) (hm : Mem w0 T (La ++ Lb) w) : Mem w0 T (bunC La :: Lb) w := by
  obtain ⟨h1, h2, h3, h4⟩ := hm
  rw [List.pairwise_append] at h4
  refine ⟨h1, fun c hc => ?_, fun c hc g hg => ?_, List.pairwise_cons.2 ⟨fun c hc g hg hg' => ?_, h4.2.1⟩⟩
  · rcases List.mem_cons.1 hc with rfl | hc
    · exact ⟨fun c hc => h2 c (List.mem_append.2 (.inl hc)), h4.1⟩
    · exact h2 c (List.mem_append.2 (.inr hc))
  · rcases List.mem_cons.1 hc with rfl | hc
    · obtain ⟨c', hc', h⟩ := bunD_iff.1 hg
      exact h3 c' (List.mem_append.2 (.inl hc')) g h
    · exact h3 c (List.mem_append.2 (.inr hc)) g hg
  · obtain ⟨c', hc', h⟩ := bunD_iff.1 hg
    exact h4.2.2 c' hc' c hc g h hg'
theorem Mem.unbundle (La Lb : List Chunk) (hm : Mem w0 T (bunC La :: Lb) w) : Mem w0 T (La ++ Lb) w := by
  obtain ⟨h1, h2, h3, h4⟩ := hm
  obtain ⟨h5, h6⟩ := List.pairwise_cons.1 h4
  have hb := h2 (bunC La) List.mem_cons_self
  refine ⟨h1, fun c hc => ?_, fun c hc g hg => ?_, List.pairwise_append.2 ⟨hb.2, h6, fun c hc c' hc' g hg hg' => ?_⟩⟩
  · rcases List.mem_append.1 hc with hc | hc
    · exact hb.1 c hc
    · exact h2 c (List.mem_cons_of_mem _ hc)
  · rcases List.mem_append.1 hc with hc | hc
    · exact h3 (bunC La) List.mem_cons_self g (bunD_iff.2 ⟨c, hc, hg⟩)
    · exact h3 c (List.mem_cons_of_mem _ hc) g hg
  · exact h5 c' hc' g (bunD_iff.2 ⟨c, hc, hg⟩) hg'
/-- A callee that changes part k, whose blocks may change, and hands back nothing else. -/
theorem Mem.callM {X : Nat → Prop} {c c' : Chunk} {w' : World} {k : Nat} (hm : Mem w0 T L w) (hk : L[k]? = some c) (hX : ∀ g, X g → c.D g) (hc : Mem w X [c'] w') : Mem w0 T (L.set k c') w' :=
  hm.upd hk (hc.chg.mono hX) (hc.own c' List.mem_cons_self) (fun g hg => (hc.dom c' List.mem_cons_self g hg).elim .inr fun h => .inl (hX g h))
/-- The cell of a box. -/
def BoxAt (R : Nat → Prop) (w : World) (g : Nat) (v : Value) : Prop := R g ∧ CellsAt w g 0 [v]
theorem BoxAt.of_old {g : Nat} {v : Value} (h : BoxAt (Old w0 T) w0 g v) (hm : Mem w0 T L w) : BoxAt (Old w0 T) w g v := ⟨h.1, h.2.mono (hm.old g h.1)⟩
theorem BoxAt.to_call {g : Nat} {v : Value} (h : BoxAt (Old w0 T) w0 g v) (hm : Mem w0 T L w) : BoxAt (Old w No) w g v := ⟨⟨Nat.lt_of_lt_of_le h.1.1 hm.chg.size, id⟩, h.2.mono (hm.old g h.1)⟩
theorem BoxAt.to_callT {g k : Nat} {v : Value} {c : Chunk} (h : BoxAt (Old w0 T) w0 g v) (hm : Mem w0 T L w) (hk : L[k]? = some c) : BoxAt (Old w c.D) w g v := ⟨hm.old_old hk g h.1, h.2.mono (hm.old g h.1)⟩
theorem Mem.boxAt_call {g t : Nat} {v : Value} (hm : Mem w0 T L w) (k : Nat) (hk : L[k]? = some (Gv.blk g t [v])) : BoxAt (Old w No) w g v := ⟨⟨(Gv.blk g t [v]).lt w (hm.get hk) g rfl, id⟩, hm.blk k hk⟩
theorem Mem.boxAt_callT {g t : Nat} {v : Value} {c : Chunk} (hm : Mem w0 T L w) (k j : Nat) (hk : L[k]? = some (Gv.blk g t [v])) (hj : L[j]? = some c) (hne : k ≠ j) : BoxAt (Old w c.D) w g v :=
  ⟨⟨(Gv.blk g t [v]).lt w (hm.get hk) g rfl, pairwise_at disj_symm hm.disj hk hj hne g rfl⟩, hm.blk k hk⟩
end
end Go.Gv
namespace Go.Gv
open Go.RowKit
section
variable {P : Program} {n : Nat} {env : Env} {w w0 : World} {T : Nat → Prop} {L : List Chunk} {d : Option Nat} {ty : TypeId} {pos : String} {af : Array Edge} {g : Option (Nat × Bool)} {x y : Operand} {v vx : Value} {t : TypeId}
/-! a list of its own whose block bears a mark behind its end (the bytes of a string) -/
def ownZ {α : Type} [Flat α] (e : Nat) (v : Value) (l : List α) : Chunk where
  D := fun g => v.ownBlock = some g
  φ := fun w => (v = .slice none 0 0 ∧ l = []) ∨ ∃ g cap cur fz, v = .slice (some ⟨g, 0, none⟩) l.length cap ∧ w.heap[g]? = some (.cells cur e fz) ∧ (fz.2 = 0 ∨ cur.size ≤ fz.1) ∧ l.length ≤ cap ∧ cap ≤ maxLen ∧ cur.size = cap * Flat.sz α ∧ cur.toList.take (l.length * Flat.sz α) = l.flatMap Flat.enc
  loc := fun w w' h hφ => by
    rcases hφ with hn | ⟨g, cap, cur, fz, rfl, hg, rest⟩
    · exact .inl hn
    · exact .inr ⟨g, cap, cur, fz, rfl, (h g (by simp [Value.ownBlock])).trans hg, rest⟩
  lt := fun w hφ g hg => by
    rcases hφ with ⟨rfl, _⟩ | ⟨g', cap, cur, fz, rfl, hgg, _⟩
    · simp [Value.ownBlock] at hg
    · simp [Value.ownBlock] at hg
      subst hg
      exact (Array.getElem?_eq_some_iff.1 hgg).1
theorem slz_of {α : Type} [Flat α] {e : Nat} {l : List α} (h : (ownZ e v l).φ w) : Sl (ownZ e v l).D w v l := by
  rcases h with ⟨rfl, rfl⟩ | ⟨g, cap, cur, fz, rfl, hg, hfz, hnc, hcm, hcs, ht⟩
  · exact Sl.nil _ _
  · refine ⟨some ⟨g, 0, none⟩, cap, rfl, hnc, fun _ => ⟨g, 0, rfl⟩, fun i x hx => ⟨rfl, _, rfl, fun j u hu => ?_⟩⟩
    have h1 := flat_get l i x j u hx hu
    rw [← ht, List.getElem?_take] at h1
    split at h1
    · show w.cell? ⟨g, 0 + i * Flat.sz α + j, none⟩ = some u
      rw [Nat.zero_add, cell_of_row w g _ cur e fz hg]
      simpa using h1
    · cases h1
theorem Mem.slz {α : Type} [Flat α] {e : Nat} {l : List α} (hm : Mem w0 T L w) (k : Nat) (hk : L[k]? = some (ownZ e v l)) : Sl (ownZ e v l).D w v l := slz_of (hm.get hk)
theorem Mem.slz_call {α : Type} [Flat α] {e : Nat} {l : List α} (hm : Mem w0 T L w) (k : Nat) (hk : L[k]? = some (ownZ e v l)) : Sl (Old w No) w v l :=
  (hm.slz k hk).mono fun g hg => ⟨⟨(ownZ e v l).lt w (hm.get hk) g hg, id⟩, rfl⟩
theorem Mem.slz_callT {α : Type} [Flat α] {e : Nat} {l : List α} {c : Chunk} (hm : Mem w0 T L w) (k j : Nat) (hk : L[k]? = some (ownZ e v l)) (hj : L[j]? = some c) (hne : k ≠ j) : Sl (Old w c.D) w v l :=
  (hm.slz k hk).mono fun g hg => ⟨⟨(ownZ e v l).lt w (hm.get hk) g hg, pairwise_at disj_symm hm.disj hk hj hne g hg⟩, rfl⟩
theorem Mem.toZ {α : Type} [Flat α] {e k : Nat} {l : List α} (hm : Mem w0 T L w) (hk : L[k]? = some (ownL e v l)) : Mem w0 T (L.set k (ownZ e v l)) w := by
  refine hm.upd hk (Chg.refl _ _) ?_ (fun _ hg => .inl hg)
  have h' : w.ownsRow 0 e (Flat.sz α) v l.length (l.flatMap Flat.enc) := hm.get hk
  rcases h'.2 with ⟨hv, hn⟩ | ⟨g, cap, cur, hv, _, hg, hnc, hcm, hcs, ht⟩
  · exact .inl ⟨hv, List.eq_nil_of_length_eq_zero hn⟩
  · exact .inr ⟨g, cap, cur, (0, 0), hv, hg, .inl rfl, hnc, hcm, hcs, ht⟩
theorem enc_bytes : ∀ l : List UInt8, l.flatMap Flat.enc = l.map fun b => Value.int .u8 (b.toNat : Int)
  | [] => rfl
  | b :: l => by rw [List.flatMap_cons, enc_bytes l]; rfl
theorem ef_bytes {e src dst : Nat} {l l' : List UInt8} (hm : Mem w0 T L w) (hs : P.underlying src = some .string) (ht : P.underlying dst = some (.slice e)) (he : P.underlying e = some (.int .u8)) (hx : evo env x = some (.string (bs l))) (hl : byS l = some l') :
    Ef P n env ⟨d, .convert src dst x, ty, pos, af, g⟩ w (fun v w' => Mem w0 T (ownZ e v l' :: L) w') := fun a ha next Q hn => by
  have e1 := ha.eval hx
  unfold byS at hl
  split at hl
  case isFalse => cases hl
  case isTrue hb =>
  have hl' := (os hl).symm
  subst hl'
  have hr := run_bytes_of_string (P := P) w src dst e (bs l) hs ht he
  rw [bs_size] at hr
  have hex : (execOp a.eval ⟨d, .convert src dst x, ty, pos, af, g⟩).run P w = .ok (.value (.slice (some ⟨w.heap.size, 0, none⟩) l.length (grownCap w l.length 0 e))) (w.drew.alloc (.cells (bytesRow (bs l) (grownCap w l.length 0 e)) e ((bytesRow (bs l) (grownCap w l.length 0 e)).size, (bytesRow (bs l) (grownCap w l.length 0 e)).size + 1))) := by
    generalize a.eval = ρ at e1 ⊢
    simp [execOp, e1, hr]
  unfold Oper.wp
  rw [hex]
  have hge := grownCap_ge w l.length 0 e
  have hcm : grownCap w l.length 0 e ≤ maxLen := grownCap_le_maxLen w l.length 0 e (by simp only [maxLen]; omega)
  have hds : (bs l).data.size = l.length := by simp [bs]
  refine hn _ _ (hm.add (c := ownZ e _ l) ⟨rfl, rfl, rfl, by simp, fun q hq _ => heap_alloc_old w.drew _ hq⟩ (.inr ⟨w.heap.size, _, _, _, rfl, heap_alloc_new w.drew _, .inr (Nat.le_refl _), hge, hcm, ?_, ?_⟩) fun q hq => ?_)
  · show (bytesRow (bs l) _).size = _ * 1
    unfold bytesRow
    rw [bs_size, Array.size_append, Array.size_map, Array.size_replicate, hds]; omega
  · show (bytesRow (bs l) _).toList.take (l.length * 1) = _
    unfold bytesRow
    rw [Array.toList_append, Nat.mul_one, enc_bytes]
    have : ((bs l).data.map fun b => Value.int .u8 (b.toNat : Int)).toList = l.map fun b => Value.int .u8 (b.toNat : Int) := by simp [bs]
    rw [this]
    exact List.take_left' (by simp)
  · have : some w.heap.size = some q := hq
    injection this with this
    omega
theorem rd_tostr {e src dst : Nat} {l : List UInt8} {R : Nat → Prop} (hs : P.underlying src = some (.slice e)) (he : P.underlying e = some (.int .u8)) (hd : P.underlying dst = some .string) (hx : evo env x = some v) (h : Sl R w v l) :
    Rd P n env ⟨d, .convert src dst x, ty, pos, af, g⟩ w (.string (bs l)) := rd_mk fun ρ hρ => by
  have e1 := hρ _ _ hx
  have key : (convert src dst v).run P w = .ok (.string (bs l)) w := by
    obtain ⟨A, c, rfl, hc, hA, hel⟩ := id h
    by_cases hne : l = []
    · subst hne
      rw [List.length_nil, run_convert_bytes_string w src dst e A 0 c hs he hd]
      cases A with
      | none => rfl
      | some a =>
        rw [run_bytesToString w a 0 c [] (by simp [loadCells, loadCellsFrom])]
        rfl
    · obtain ⟨b, o, rfl⟩ := hA hne
      refine run_convert_bytes_back w src dst e ⟨b, o, none⟩ c l hs he hd fun j hj => ?_
      refine sl_news h j _ ?_
      rw [enc_bytes, List.getElem?_map, List.getElem?_eq_getElem hj]; rfl
  simp [execOp, e1, key]
theorem run_storeCells_atZ (P : Program) (g o : Nat) (t : TypeId) (fz : Nat × Nat) : ∀ (vs : List Value) (i : Nat) (cur : Array Value) (w : World), w.heap[g]? = some (.cells cur t fz) → (fz.2 = 0 ∨ cur.size ≤ fz.1) → o + i + vs.length ≤ cur.size → (∀ v ∈ vs, v.oneCell' = true) →
    (storeCells ⟨g, o, none⟩ vs i).run P w = .ok () (w.setRow g (cur.toList.take (o + i) ++ vs ++ cur.toList.drop (o + i + vs.length)).toArray)
  | [], i, cur, w, hg, _, _, _ => by
    simp only [storeCells, List.append_nil, List.length_nil, Nat.add_zero, List.take_append_drop, Array.toArray_toList]
    rw [setRow_self w g cur t fz hg]
    rfl
  | v :: rest, i, cur, w, hg, hfz, hl, h1 => by
    have hi : o + i < cur.size := by simp at hl; omega
    have hadd : (⟨g, o, none⟩ : Addr).add i = ⟨g, o + i, none⟩ := by unfold Addr.add; split <;> simp_all
    have hcell : w.cell? ⟨g, o + i, none⟩ = some cur[o + i] := by simp [World.cell?, hg, hi]
    have hfro : w.frozen? ⟨g, o + i, none⟩ = false := by
      obtain ⟨lo, hi'⟩ := fz
      simp only [World.frozen?, hg, Bool.and_eq_false_iff, decide_eq_false_iff_not]
      simp only at hfz
      omega
    have hst : (store ((⟨g, o, none⟩ : Addr).add i) v).run P w = .ok () (w.setRow g (cur.setIfInBounds (o + i) v)) := by
      rw [hadd, run_store P w _ v _ (h1 v (by simp)), hcell]
      simp [hfro, setCell_eq_setRow w g (o + i) cur t fz v hg]
    have ih := run_storeCells_atZ P g o t fz rest (i + 1) (cur.setIfInBounds (o + i) v) (w.setRow g (cur.setIfInBounds (o + i) v)) (setRow_heap w g cur _ t _ hg) (by simpa using hfz) (by simp at hl ⊢; omega) (fun x hx => h1 x (by simp [hx]))
    simp only [storeCells, Sem.run_bind, hst, Result.andThen_ok, ih, setRow_setRow]
    congr 3
    have e := list_seg_step cur.toList (o + i) v rest (by simp at hl ⊢; omega)
    simpa [Array.toList_setIfInBounds, Nat.add_assoc] using e
theorem ef_appendZ {α : Type} [Flat α] {e bytes k : Nat} {z : Value} {l lx l' : List α} {R : Nat → Prop} (hm : Mem w0 T L w) (ht : TSlice P t e (Flat.sz α)) (he : TElem P e (Flat.sz α) bytes z) (hzs : z.cells.size = Flat.sz α) (hk : L[k]? = some (ownZ e v l))
    (hx : evo env x = some v) (hy : evo env y = some vx) (hs : Sl R w vx lx) (hl : app bytes l lx = some l') (hne : lx ≠ []) :
    Ef P n env ⟨d, .call { callee := .builtin .append, args := #[x, y], argTypes := #[t, t] }, ty, pos, af, g⟩ w (fun v' w' => Mem w0 T (L.set k (ownZ e v' l')) w') := by
  have hkl : k < L.length := (List.getElem?_eq_some_iff.1 hk).1
  rcases hm.get hk with ⟨rfl, rfl⟩ | ⟨b0, cap, cur, fz, rfl, hg, hfz, hnc, hcm, hcs, htk⟩
  · have hm2 : Mem w0 T (L.set k (ownL e (.slice none 0 0) ([] : List α))) w := hm.upd hk (Chg.refl _ _) (World.ownsRow_nil w 0 e _) (fun _ h => .inl h)
    have hk2 : (L.set k (ownL e (.slice none 0 0) ([] : List α)))[k]? = some (ownL e (.slice none 0 0) ([] : List α)) := by rw [List.getElem?_set, if_pos rfl, if_pos hkl]
    refine (ef_append hm2 ht he hzs hk2 hx hy hs hl).mono fun v' w' h => ?_
    have h2 := h.toZ (k := k) (by rw [List.set_set, List.getElem?_set, if_pos rfl, if_pos hkl])
    rwa [List.set_set, List.set_set] at h2
  · intro a ha next Q hn
    obtain ⟨i, hi, hsz, hby, hzz⟩ := he.ex
    have e1 := ha.eval hx
    have e2 := ha.eval hy
    have hex : ∀ v' w', (Builtin.append_ #[t, t] ty #[.slice (some ⟨b0, 0, none⟩) l.length cap, vx]).run P w = .ok v' w' →
        (execOp a.eval ⟨d, .call { callee := .builtin .append, args := #[x, y], argTypes := #[t, t] }, ty, pos, af, g⟩).run P w = .ok (.value v') w' := fun v' w' hr => by
      generalize a.eval = ρ at e1 e2 ⊢
      simp [execOp, resolve, invoke, builtin, e1, e2, hr]
    unfold app at hl
    split at hl
    case isFalse => cases hl
    case isTrue hb =>
    have hl' := os hl
    subst hl'
    obtain ⟨A, c, hvx, hc, hA, hel⟩ := id hs
    obtain ⟨b, o, rfl⟩ := hA hne
    subst hvx
    have hnews := sl_news hs
    have hpl : 0 < lx.length := List.length_pos_iff.2 hne
    have hone : ∀ u ∈ lx.flatMap Flat.enc, u.oneCell' = true := fun u hu => by obtain ⟨y, _, hy⟩ := List.mem_flatMap.1 hu; exact Flat.one y u hy
    have hcs' : cur.size = cap * i.size := by rw [hsz]; exact hcs
    unfold Oper.wp
    by_cases hroom : l.length + lx.length ≤ cap
    · have hfl : (lx.flatMap Flat.enc).length = lx.length * i.size := by rw [hsz]; exact flat_len lx
      have hfit : l.length * i.size + (lx.flatMap Flat.enc).length ≤ cur.size := by rw [hfl, hcs', ← Nat.add_mul]; exact Nat.mul_le_mul_right _ hroom
      have hf := run_firstCells_some (P := P) w i.size lx.length ⟨b, o, none⟩ lx.length c _ hfl hnews
      have hst := run_storeCells_atZ P b0 (l.length * i.size) e fz (lx.flatMap Flat.enc) 0 cur w hg hfz (by simpa using hfit) hone
      simp only [Nat.add_zero] at hst
      have hr : (Builtin.append_ #[t, t] ty #[.slice (some ⟨b0, 0, none⟩) l.length cap, .slice (some ⟨b, o, none⟩) lx.length c]).run P w = .ok (.slice (some ⟨b0, 0, none⟩) (l.length + lx.length) cap) (w.setRow b0 (cur.toList.take (l.length * i.size) ++ lx.flatMap Flat.enc ++ cur.toList.drop (l.length * i.size + (lx.flatMap Flat.enc).length)).toArray) := by
        simp [Builtin.append_, run_underlying ht.1, sizeOf, typeInfo, hi, Builtin.lenOf, hroom, hf, Addr.add_lit, hst]
      rw [hex _ _ hr]
      have htk' : cur.toList.take (l.length * i.size) = l.flatMap Flat.enc := by rw [hsz]; exact htk
      refine hn _ _ (hm.upd hk ⟨rfl, rfl, rfl, by simp, fun q hq hne => setRow_other w b0 q _ (fun e => hne (by subst e; rfl))⟩ (.inr ⟨b0, cap, _, fz, by rw [List.length_append], setRow_heap w b0 cur _ e _ hg, ?_, by rw [List.length_append]; exact hroom, hcm, ?_, ?_⟩) fun q hq => .inl hq)
      · have : (cur.toList.take (l.length * i.size) ++ lx.flatMap Flat.enc ++ cur.toList.drop (l.length * i.size + (lx.flatMap Flat.enc).length)).toArray.size = cur.size := by
          simp only [List.size_toArray, List.length_append, List.length_take, List.length_drop, Array.length_toList]; omega
        rw [this]; exact hfz
      · rw [← hcs]
        simp only [List.size_toArray, List.length_append, List.length_take, List.length_drop, Array.length_toList]; omega
      · rw [htk', List.flatMap_append, ← flat_len (l ++ lx), List.flatMap_append]
        exact List.take_left
    · have hr := run_append_grow (P := P) w t ty e i z ht.1 hi hzz ⟨b0, 0, none⟩ l.length cap (l.flatMap Flat.enc) (by rw [hsz]; exact flat_len l) (by
          intro j u hu
          have hsl := slz_of (e := e) (l := l) (.inr ⟨b0, cap, cur, fz, rfl, hg, hfz, hnc, hcm, hcs, htk⟩)
          exact sl_news hsl j u hu)
        ⟨b, o, none⟩ lx.length c (lx.flatMap Flat.enc) (by rw [hsz]; exact flat_len lx) hnews (by omega) (by omega) (growslice_fits (by omega) (by rw [hby]; exact hb.1))
      rw [hex _ _ hr]
      have hge := grownCap_ge w (l.length + lx.length) cap e
      have hcm2 : grownCap w (l.length + lx.length) cap e ≤ maxLen := grownCap_le_maxLen w (l.length + lx.length) cap e (by simp only [maxLen]; omega)
      have hzs' : z.cells.size = i.size := by rw [hzs, hsz]
      refine hn _ _ (hm.upd hk ⟨rfl, rfl, rfl, by simp, fun q hq _ => heap_alloc_old w.drew _ hq⟩ (.inr ⟨w.heap.size, _, _, (0, 0), by rw [List.length_append], heap_alloc_new w.drew _, .inl rfl, by rw [List.length_append]; exact hge, hcm2, ?_, ?_⟩) fun q hq => .inr ?_)
      · simp only [Array.size_append, List.size_toArray, size_zeroCells, hzs, flat_len, ← Nat.add_mul]
        congr 1; omega
      · simp only [Array.toList_append]
        rw [List.flatMap_append]
        exact List.take_left' (by rw [List.length_append, List.length_append, flat_len, flat_len, Nat.add_mul])
      · have : some w.heap.size = some q := hq
        injection this with this
        omega
end
section
variable {P : Program} {n : Nat} {env : Env} {w : World} {d : Option Nat} {ty : TypeId} {pos : String} {af : Array Edge} {g : Option (Nat × Bool)} {x y : Operand} {t : TypeId}
theorem bs_ext (l : List UInt8) (a b : Nat) : (bs l).extract a b = bs ((l.take b).drop a) := by
  apply ByteArray.ext
  rw [ByteArray.data_extract]
  simp only [bs]
  apply Array.toList_inj.1
  simp [List.drop_take, List.extract_eq_take_drop]
theorem rd_sstH {l l' : List UInt8} {hi : Int} (ht : P.underlying t = some .string) (hx : evo env x = some (.string (bs l))) (hh : evo env y = some (.int .i64 hi)) (hs : slc l 0 hi = some l') :
    Rd P n env ⟨d, .slice t x none (some y) none, ty, pos, af, g⟩ w (.string (bs l')) := rd_mk fun ρ hρ => by
  obtain ⟨h0, h1, h2, rfl⟩ := slc_some hs
  have key := run_slice_string_h (P := P) w t (bs l) ht .i64 hi (by omega) (by rw [bs_size]; omega)
  rw [bs_ext l 0 hi.toNat] at key
  simp [execOp, hρ _ _ hx, hρ _ _ hh, run_sliceAt_string _ t _ _ _ _ ht, key]
theorem rd_sstL {l l' : List UInt8} {lo : Int} (ht : P.underlying t = some .string) (hx : evo env x = some (.string (bs l))) (hh : evo env y = some (.int .i64 lo)) (hs : slc l lo (l.length : Int) = some l') :
    Rd P n env ⟨d, .slice t x (some y) none none, ty, pos, af, g⟩ w (.string (bs l')) := rd_mk fun ρ hρ => by
  obtain ⟨h0, h1, h2, rfl⟩ := slc_some hs
  have key := run_slice_string_l (P := P) w t (bs l) ht .i64 lo (by omega) (by rw [bs_size]; omega)
  rw [bs_ext l lo.toNat (bs l).size, bs_size] at key
  simp [execOp, hρ _ _ hx, hρ _ _ hh, run_sliceAt_string _ t _ _ _ _ ht, key]
theorem rd_sstLH {l l' : List UInt8} {lo hi : Int} {z : Operand} (ht : P.underlying t = some .string) (hx : evo env x = some (.string (bs l))) (hh : evo env y = some (.int .i64 lo)) (hz : evo env z = some (.int .i64 hi)) (hs : slc l lo hi = some l') :
    Rd P n env ⟨d, .slice t x (some y) (some z) none, ty, pos, af, g⟩ w (.string (bs l')) := rd_mk fun ρ hρ => by
  obtain ⟨h0, h1, h2, rfl⟩ := slc_some hs
  have key := run_slice_string (P := P) w t (bs l) .i64 .i64 lo hi ht (by omega) (by omega) (by rw [bs_size]; omega)
  rw [bs_ext l lo.toNat hi.toNat] at key
  simp [execOp, hρ _ _ hx, hρ _ _ hh, hρ _ _ hz, run_sliceAt_string _ t _ _ _ _ ht, key]
end
section
variable {w w0 : World} {T : Nat → Prop} {L : List Chunk} {β : Type} [MV β] {m : List (Int × β)}
/-- A map that lies in the blocks R. -/
def MapAt (R : Nat → Prop) (w : World) (g : Nat) (m : List (Int × β)) : Prop := R g ∧ (mapC g m).φ w
theorem MapAt.of_old {g : Nat} (h : MapAt (Old w0 T) w0 g m) (hm : Mem w0 T L w) : MapAt (Old w0 T) w g m :=
  ⟨h.1, (mapC g m).loc w0 w (fun q hq => by obtain rfl : q = g := hq; exact hm.old q h.1) h.2⟩
theorem MapAt.to_call {g : Nat} (h : MapAt (Old w0 T) w0 g m) (hm : Mem w0 T L w) : MapAt (Old w No) w g m :=
  ⟨⟨Nat.lt_of_lt_of_le h.1.1 hm.chg.size, id⟩, (h.of_old hm).2⟩
theorem MapAt.to_callT {g k : Nat} {c : Chunk} (h : MapAt (Old w0 T) w0 g m) (hm : Mem w0 T L w) (hk : L[k]? = some c) : MapAt (Old w c.D) w g m :=
  ⟨hm.old_old hk g h.1, (h.of_old hm).2⟩
theorem Mem.map_call {g : Nat} (hm : Mem w0 T L w) (k : Nat) (hk : L[k]? = some (mapC g m)) : MapAt (Old w No) w g m :=
  ⟨⟨(mapC g m).lt w (hm.get hk) g rfl, id⟩, hm.get hk⟩
theorem Mem.map_callT {g : Nat} {c : Chunk} (hm : Mem w0 T L w) (k j : Nat) (hk : L[k]? = some (mapC g m)) (hj : L[j]? = some c) (hne : k ≠ j) : MapAt (Old w c.D) w g m :=
  ⟨⟨(mapC g m).lt w (hm.get hk) g rfl, pairwise_at disj_symm hm.disj hk hj hne g rfl⟩, hm.get hk⟩
end
/-! maps of lists: the map holds headers; the lists are owned -/
instance : MV Hdr := ⟨fun x => x.1⟩
theorem mgetB_mset {β : Type} (k : Int) (v : β) (k' : Int) : ∀ m : List (Int × β), mget (mset m k v) k' = if k = k' then some v else mget m k'
  | [] => by simp [mset, mget]
  | p :: m => by
    by_cases h : p.1 = k
    · simp only [mset, if_pos h, mget]
      by_cases h2 : k = k'
      · simp [h2]
      · rw [if_neg h2, if_neg (show ¬ p.1 = k' by rw [h]; exact h2), if_neg h2]
    · simp only [mset, if_neg h, mget]
      by_cases h2 : p.1 = k'
      · rw [if_pos h2, if_neg (show ¬ k = k' from fun e => h (h2.trans e.symm)), if_pos h2]
      · rw [if_neg h2, mgetB_mset k v k' m, if_neg h2]
def mlk (zm : List (Int × Hdr)) (k : Int) : Value := ((mget zm k).map MV.val).getD (Value.slice none 0 0)
def mrows {α : Type} [Flat α] (e : Nat) (zm : List (Int × Hdr)) (ml : List (Int × List α)) (ho : Option Int) : Chunk where
  D := fun g => ∃ (k : Int) (z : Hdr), mget zm k = some z ∧ ho ≠ some k ∧ z.1.ownBlock = some g
  φ := fun w => (∀ k, (mget zm k).isSome = (mget ml k).isSome) ∧ (∀ (k : Int) (z : Hdr) (l : List α), mget zm k = some z → mget ml k = some l → ho ≠ some k → (ownL e z.1 l).φ w) ∧
    (∀ (k k' : Int) (z z' : Hdr) (g : Nat), k ≠ k' → mget zm k = some z → mget zm k' = some z' → ho ≠ some k → ho ≠ some k' → z.1.ownBlock = some g → z'.1.ownBlock ≠ some g)
  loc := fun w w' h hφ => ⟨hφ.1, fun k z l hz hl hk => (ownL e z.1 l).loc w w' (fun g hg => h g ⟨k, z, hz, hk, hg⟩) (hφ.2.1 k z l hz hl hk), hφ.2.2⟩
  lt := fun w hφ g ⟨k, z, hz, hk, hg⟩ => by
    have h := hφ.1 k
    rw [hz] at h
    obtain ⟨l, hl⟩ := Option.isSome_iff_exists.1 h.symm
    exact (ownL e z.1 l).lt w (hφ.2.1 k z l hz hl hk) g hg
section
variable {w0 w : World} {T : Nat → Prop} {L : List Chunk} {α : Type} [Flat α] {e : Nat} {zm : List (Int × Hdr)} {ml : List (Int × List α)} {l : List α}
theorem Mem.mrowsNil (α : Type) [Flat α] (hm : Mem w0 T L w) (e : Nat) : Mem w0 T (mrows e [] ([] : List (Int × List α)) none :: L) w :=
  hm.add (Chg.refl _ _) ⟨fun _ => rfl, fun k z l hz => by simp [mget] at hz, fun k k' z z' g _ hz => by simp [mget] at hz⟩ (fun g ⟨k, z, hz, _⟩ => by simp [mget] at hz)
theorem mrow_φ (h : (mrows e zm ml none).φ w) (k : Int) : Sl (mrows e zm ml none).D w (mlk zm k) (Option.getD (mget ml k) []) := by
  have h1 := h.1 k
  unfold mlk
  cases hz : mget zm k with
  | none =>
    rw [hz] at h1
    rw [Option.isSome_eq_false_iff.1 h1.symm |> Option.isNone_iff_eq_none.1]
    exact Sl.nil _ _
  | some z =>
    rw [hz] at h1
    obtain ⟨l, hl⟩ := Option.isSome_iff_exists.1 h1.symm
    rw [hl]
    exact (sl_of_own (h.2.1 k z l hz hl (by simp))).mono fun g hg => ⟨⟨k, z, hz, by simp, hg⟩, rfl⟩
theorem Mem.mrow (hm : Mem w0 T L w) (i : Nat) (hk : L[i]? = some (mrows e zm ml none)) (k : Int) : Sl (mrows e zm ml none).D w (mlk zm k) (Option.getD (mget ml k) []) := mrow_φ (hm.get hk) k
theorem Mem.mrow_call (hm : Mem w0 T L w) (i : Nat) (hk : L[i]? = some (mrows e zm ml none)) (k : Int) : Sl (Old w No) w (mlk zm k) (Option.getD (mget ml k) []) :=
  (hm.mrow i hk k).mono fun g hg => ⟨⟨(mrows e zm ml none).lt w (hm.get hk) g hg, id⟩, rfl⟩
theorem Mem.mrow_callT (hm : Mem w0 T L w) (i j : Nat) {c : Chunk} (hk : L[i]? = some (mrows e zm ml none)) (hj : L[j]? = some c) (hne : i ≠ j) (k : Int) : Sl (Old w c.D) w (mlk zm k) (Option.getD (mget ml k) []) :=
  (hm.mrow i hk k).mono fun g hg => ⟨⟨(mrows e zm ml none).lt w (hm.get hk) g hg, pairwise_at disj_symm hm.disj hk hj hne g hg⟩, rfl⟩
theorem Mem.mfocus (hm : Mem w0 T (mrows e zm ml none :: L) w) (k : Int) : Mem w0 T (mrows e zm ml (some k) :: ownL e (mlk zm k) (Option.getD (mget ml k) []) :: L) w := by
  obtain ⟨h1, h2, h3⟩ := hm.own _ List.mem_cons_self
  have hφ : (ownL e (mlk zm k) (Option.getD (mget ml k) [])).φ w := by
    have h4 := h1 k
    unfold mlk
    cases hz : mget zm k with
    | none =>
      rw [hz] at h4
      rw [Option.isSome_eq_false_iff.1 h4.symm |> Option.isNone_iff_eq_none.1]
      exact World.ownsRow_nil w 0 e _
    | some z =>
      rw [hz] at h4
      obtain ⟨l, hl⟩ := Option.isSome_iff_exists.1 h4.symm
      rw [hl]
      exact h2 k z l hz hl (by simp)
  have hD : ∀ g, (ownL e (mlk zm k) (Option.getD (mget ml k) [])).D g → ∃ z, mget zm k = some z ∧ z.1.ownBlock = some g := fun g hg => by
    have hg : (mlk zm k).ownBlock = some g := hg
    unfold mlk at hg
    cases hz : mget zm k with
    | none => rw [hz] at hg; simp [Value.ownBlock] at hg
    | some z => rw [hz] at hg; exact ⟨z, rfl, hg⟩
  refine hm.split2 ⟨h1, fun k' z l hz hl _ => h2 k' z l hz hl (by simp), fun k1 k2 z z' g hne hz hz' _ _ => h3 k1 k2 z z' g hne hz hz' (by simp) (by simp)⟩ hφ
    (fun g ⟨k', z, hz, _, hg⟩ => ⟨k', z, hz, by simp, hg⟩) (fun g hg => ?_) (fun g ⟨k', z', hz', hne, hg⟩ hg' => ?_)
  · obtain ⟨z, hz, hg⟩ := hD g hg
    exact ⟨k, z, hz, by simp, hg⟩
  · obtain ⟨z, hz, hg2⟩ := hD g hg'
    exact h3 k' k z' z g (fun e => hne (by rw [e])) hz' hz (by simp) (by simp) hg hg2
theorem Mem.mfill {k : Int} {z : Hdr} (hm : Mem w0 T (mrows e zm ml (some k) :: ownL e z.1 l :: L) w) : Mem w0 T (mrows e (mset zm k z) (mset ml k l) none :: L) w := by
  obtain ⟨h1, h2, h3⟩ := hm.own _ List.mem_cons_self
  have h4 := hm.own _ (List.mem_cons_of_mem _ List.mem_cons_self)
  have hd := (List.pairwise_cons.1 hm.disj).1 _ List.mem_cons_self
  have get : ∀ k' z', mget (mset zm k z) k' = some z' → (k' ≠ k ∧ mget zm k' = some z') ∨ (k' = k ∧ z' = z) := fun k' z' h => by
    rw [mgetB_mset] at h
    by_cases e : k = k'
    · rw [if_pos e] at h; exact .inr ⟨e.symm, (os h).symm ▸ rfl⟩
    · rw [if_neg e] at h; exact .inl ⟨fun q => e q.symm, h⟩
  have ho : ∀ k' : Int, k' ≠ k → (some k : Option Int) ≠ some k' := fun k' h e => h (by injection e with e; exact e.symm)
  refine hm.merge2 ⟨fun k' => ?_, fun k' z' l' hz hl _ => ?_, fun k1 k2 z1 z2 g hne hz hz' _ _ hg hg' => ?_⟩ (fun g ⟨k', z', hz, _, hg⟩ => ?_)
  · rw [mgetB_mset, mgetB_mset]
    split
    · rfl
    · exact h1 k'
  · rw [mgetB_mset] at hl
    rcases get k' z' hz with ⟨hn, hz⟩ | ⟨rfl, rfl⟩
    · rw [if_neg (fun e => hn e.symm)] at hl
      exact h2 k' z' l' hz hl (ho k' hn)
    · rw [if_pos rfl] at hl
      have := os hl
      subst this
      exact h4
  · rcases get k1 z1 hz with ⟨n1, a1⟩ | ⟨rfl, rfl⟩ <;> rcases get k2 z2 hz' with ⟨n2, a2⟩ | ⟨rfl, rfl⟩
    · exact h3 k1 k2 z1 z2 g hne a1 a2 (ho k1 n1) (ho k2 n2) hg hg'
    · exact hd g ⟨k1, z1, a1, ho k1 n1, hg⟩ hg'
    · exact hd g ⟨k2, z2, a2, ho k2 n2, hg'⟩ hg
    · exact hne rfl
  · rcases get k' z' hz with ⟨hn, hz⟩ | ⟨rfl, rfl⟩
    · exact .inl ⟨k', z', hz, ho k' hn, hg⟩
    · exact .inr hg
end
theorem andNl {a b : Bool} (h : (a && b) = false) (k : a = true) : b = false := by subst k; simpa using h
theorem andNr {a b : Bool} (h : (a && b) = false) (k : b = true) : a = false := by subst k; simpa using h
theorem orNl {a b : Bool} (h : (a || b) = true) (k : a = false) : b = true := by subst k; simpa using h
theorem orNr {a b : Bool} (h : (a || b) = true) (k : b = false) : a = true := by subst k; simpa using h
end Go.Gv
namespace Go.Gv
open Go.RowKit
/-! a region's rest, under another relation -/
section
variable {P : Program} {n : Nat} {ops : Array Oper} {md : Region.Mode} {S S' : World → Prop} {T T' : Nat → Nat} {Q : Exit → Env → World → Prop} {env : Env} {w : World} {fuel : Nat} {listed : Array Bool}
def reB (m : Nat) (T T' : Nat → Nat) (listed : Array Bool) : Bool := (List.range m).all fun i => listed.getD i false || (!(Nat.beq (T i) 0) && (!(Nat.beq (T i) 2) || Nat.beq (T' i) 2))
theorem wpAnyT_re {Q : Exit → Act → World → Prop} : ∀ (fuel : Nat) (listed : Array Bool) (a : Act) (w : World), (∀ i, i < ops.size → listed.getD i false = false → T i ≠ 0 ∧ (T i = 2 → T' i = 2)) → wpAnyT P md ops Q S' T' fuel listed a w → wpAnyT P md ops Q S T fuel listed a w
  | 0, _, _, _, _, h => h
  | fuel + 1, listed, a, w, U, h => ⟨h.1, fun i hi => wpOp_mono (fun a' w' h' => by
      obtain ⟨hl, o, ho, _⟩ := mem_ready.1 hi
      have hlt : i < ops.size := (Array.getElem?_eq_some_iff.1 ho).1
      have hl2 : listed.getD i false = false := by
        by_cases hs : i < listed.size
        · simp [Array.getD, hs] at hl ⊢; exact hl
        · simp [Array.getD, hs]
      have hu := U i hlt hl2
      refine ⟨⟨fun h0 => absurd h0 hu.1, fun h2 => h'.1.2 (hu.2 h2)⟩, wpAnyT_re fuel _ a' w' (fun j hj hjl => U j hj ?_) h'.2⟩
      by_cases e : listed.getD j false = false
      · exact e
      · have : listed.getD j false = true := by simpa using e
        rw [getD_set_true this] at hjl; cases hjl) (h.2 i hi)⟩
theorem s_re (hb : reB ops.size T T' listed = true) (K : RWs P n ops Q S' T' fuel listed env w) : RWs P n ops Q S T fuel listed env w := fun a ha =>
  wpAnyT_re fuel listed a w (fun i hi hl => by
    have := List.all_eq_true.1 hb i (List.mem_range.2 hi)
    rw [hl, Bool.false_or, Bool.and_eq_true, Bool.or_eq_true] at this
    refine ⟨fun h0 => ?_, fun h2 => ?_⟩
    · rw [h0] at this; simp at this
    · rcases this.2 with h | h
      · rw [h2] at h; simp at h
      · exact Nat.eq_of_beq_eq_true h) (K a ha)
end
/-! a box of several cells -/
section
variable {w0 w : World} {T : Nat → Prop} {L : List Chunk}
def BoxL (R : Nat → Prop) (w : World) (g : Nat) (vs : List Value) : Prop := R g ∧ CellsAt w g 0 vs
theorem BoxL.of_old {g : Nat} {v : List Value} (h : BoxL (Old w0 T) w0 g v) (hm : Mem w0 T L w) : BoxL (Old w0 T) w g v := ⟨h.1, h.2.mono (hm.old g h.1)⟩
theorem BoxL.to_call {g : Nat} {v : List Value} (h : BoxL (Old w0 T) w0 g v) (hm : Mem w0 T L w) : BoxL (Old w No) w g v := ⟨⟨Nat.lt_of_lt_of_le h.1.1 hm.chg.size, id⟩, h.2.mono (hm.old g h.1)⟩
theorem BoxL.to_callT {g k : Nat} {v : List Value} {c : Chunk} (h : BoxL (Old w0 T) w0 g v) (hm : Mem w0 T L w) (hk : L[k]? = some c) : BoxL (Old w c.D) w g v := ⟨hm.old_old hk g h.1, h.2.mono (hm.old g h.1)⟩
theorem Mem.boxL_call {g t : Nat} {v : List Value} (hm : Mem w0 T L w) (k : Nat) (hk : L[k]? = some (Gv.blk g t v)) : BoxL (Old w No) w g v := ⟨⟨(Gv.blk g t v).lt w (hm.get hk) g rfl, id⟩, hm.blk k hk⟩
theorem Mem.boxL_callT {g t : Nat} {v : List Value} {c : Chunk} (hm : Mem w0 T L w) (k j : Nat) (hk : L[k]? = some (Gv.blk g t v)) (hj : L[j]? = some c) (hne : k ≠ j) : BoxL (Old w c.D) w g v :=
  ⟨⟨(Gv.blk g t v).lt w (hm.get hk) g rfl, pairwise_at disj_symm hm.disj hk hj hne g rfl⟩, hm.blk k hk⟩
/-- From a world to one that has the same blocks of R. -/
theorem BoxL.toW {R R' : Nat → Prop} {w W : World} {g : Nat} {v : List Value} (h : BoxL R w g v) (hW : ∀ k, R k → R' k ∧ W.heap[k]? = w.heap[k]?) : BoxL R' W g v := ⟨(hW g h.1).1, h.2.mono (hW g h.1).2⟩
end
end Go.Gv
namespace Go.Gv
open Go.RowKit
/-! a part of a block, as a struct -/
section
variable {P : Program} {n : Nat} {env : Env} {w : World} {d : Option Tmp} {t ty : TypeId} {x : Operand} {pos : String} {af : Array Edge} {g : Option (Nat × Bool)}
theorem rd_andI {a b : Int} {y : Operand} {t' : TypeId} (hx : evo env x = some (.int .i64 a)) (hy : evo env y = some (.int .i64 b)) : Rd P n env ⟨d, .binOp .and t x y t', ty, pos, af, g⟩ w (.int .i64 (andI a b)) :=
  rd_bin hx hy guard_int (by simp only [binOp, Op.intBits, wr64_eq, andI, IntKind.bits]; rfl)
theorem rd_ldp {b o sz off : Nat} {cs cs' : List Value} (ht : TAgg P t sz) (hx : evo env x = some (.pointer (some ⟨b, o + off, none⟩))) (hc : CellsAt w b o cs) (he : (cs.drop off).take sz = cs') (hl : cs'.length = sz) : Rd P n env ⟨d, .load t x, ty, pos, af, g⟩ w (.agg cs'.toArray) :=
  rd_ld ht hx (o := o + off) (cs := cs') (fun j u hu => by
    subst he
    have h1 : ((cs.drop off).take sz)[j]? = some u := hu
    have h2 : cs[off + j]? = some u := by
      rw [List.getElem?_take] at h1
      split at h1
      · rw [List.getElem?_drop] at h1; exact h1
      · cases h1
    rw [Nat.add_assoc]
    exact hc (off + j) u h2) hl
end
/-! a list against nil -/
section
variable {P : Program} {w : World} {t : TypeId}
theorem rd_nilS {α : Type} [Rep α] {R : Nat → Prop} {v : Value} {l : List α} {e sz : Nat} (hT : TSlice P t e sz) (h : Sl R w v l) :
    ∃ b : Bool, (∀ {n : Nat} {env : Env} {d : Option Tmp} {x : Operand} {t' ty : TypeId} {pos : String} {af : Array Edge} {g : Option (Nat × Bool)}, evo env x = some v → Rd P n env ⟨d, .binOp .eql t x (.const (.slice none 0 0)) t', ty, pos, af, g⟩ w (.bool b)) ∧ (b = true → l = []) := by
  obtain ⟨A, c, rfl, _, hA, _⟩ := h
  refine ⟨A.isNone, fun hx => rd_bin hx rfl ?_ (Lib.run_eql_slice_nil w t e A _ c 0 0 hT.1), fun hb => ?_⟩
  · unfold eqGuard; simp [go_sem]
  · by_cases hl : l = []
    · exact hl
    · obtain ⟨b, o, rfl⟩ := hA hl
      cases hb
theorem app_nn {α : Type} {b : Nat} {res : List α} (h : app b ([] : List α) [] = some res) : res = [] := by
  unfold app at h
  split at h
  · injection h with h; rw [← h]; rfl
  · cases h
end
/-! bytes of strings -/
section
variable {P : Program} {n : Nat} {env : Env} {w : World} {d : Option Nat} {ty : TypeId} {pos : String} {af : Array Edge} {g : Option (Nat × Bool)} {x y : Operand} {t t' : TypeId}
theorem rd_sidx {l : List UInt8} {j : Int} {r : UInt8} {kj : IntKind} (ht : P.underlying t = some .string) (hx : evo env x = some (.string (bs l))) (hy : evo env y = some (.int kj j)) (hj : idx l j = some r) :
    Rd P n env ⟨d, .index t x y, ty, pos, af, g⟩ w (.int .u8 (r.toNat : Int)) := rd_mk fun ρ hρ => by
  obtain ⟨h0, h1, h2⟩ := idx_some hj
  have hlt : j.toNat < l.length := by omega
  have e : (bs l)[j.toNat]? = some r := by
    rw [getElem?_pos (bs l) j.toNat (by rw [bs_size]; exact hlt)]
    have : (bs l)[j.toNat]'(by rw [bs_size]; exact hlt) = l[j.toNat] := rfl
    rw [this]
    rw [List.getElem?_eq_getElem hlt] at h2
    exact h2
  simp [execOp, hρ _ _ hx, hρ _ _ hy, Instr.index, asIntOf, run_underlying ht, h0, e]
theorem rd_sub_u8 {a b : Int} (hx : evo env x = some (.int .u8 a)) (hy : evo env y = some (.int .u8 b)) : Rd P n env ⟨d, .binOp .sub t x y t', ty, pos, af, g⟩ w (.int .u8 ((a - b) % 256)) := by
  have := rd_sub (P := P) (n := n) (w := w) (d := d) (ty := ty) (pos := pos) (af := af) (g := g) (t := t) (t' := t') hx hy
  rwa [IntKind.wrap_u8] at this
end
instance : Flat Str where
  sz := 1
  bytes := 16
  enc := fun x => [.string (bs x.s)]
  pos := by decide
  len := fun _ => rfl
  one := fun _ u hu => by simp at hu; subst hu; rfl
section
variable {P : Program} {n : Nat} {env : Env} {w w0 : World} {T : Nat → Prop} {L : List Chunk} {d : Option Nat} {ty : TypeId} {pos : String} {af : Array Edge} {g : Option (Nat × Bool)} {x y : Operand} {v u : Value} {t : TypeId}
theorem own_setZ {α : Type} [Flat α] {e : Nat} {l : List α} {i off : Nat} {xe x' : α} (hφ : (ownZ e v l).φ w) (hi : l[i]? = some xe) (ho : off < Flat.sz α) (he : (Flat.enc xe).set off u = Flat.enc x') :
    (ownZ e v (l.set i x')).φ (w.setCell ⟨pB v, pO v + i * Flat.sz α + off, none⟩ u) ∧ w.frozen? ⟨pB v, pO v + i * Flat.sz α + off, none⟩ = false ∧ v.ownBlock = some (pB v) := by
  rcases hφ with ⟨hv, hn⟩ | ⟨g, cap, cur, fz, hv, hg, hfz, hnc, hcm, hcs, htake⟩
  · subst hn
    simp at hi
  · have e1 : pB v = g := by rw [hv]; rfl
    have e2 : pO v = 0 := by rw [hv]; rfl
    rw [e1, e2, Nat.zero_add]
    have hil : i < l.length := (List.getElem?_eq_some_iff.1 hi).1
    have hlt : i * Flat.sz α + off < l.length * Flat.sz α := by
      have : (i + 1) * Flat.sz α ≤ l.length * Flat.sz α := Nat.mul_le_mul_right _ hil
      rw [Nat.add_mul] at this; omega
    have hcl : l.length * Flat.sz α ≤ cap * Flat.sz α := Nat.mul_le_mul_right _ hnc
    refine ⟨.inr ⟨g, cap, cur.setIfInBounds (i * Flat.sz α + off) u, fz, by rw [List.length_set]; exact hv, ?_, by simpa using hfz, by simpa using hnc, hcm, by simpa using hcs, ?_⟩, ?_, by rw [hv]; rfl⟩
    · simp [World.setCell, Array.getElem?_modify, hg]
    · rw [List.length_set, Array.toList_setIfInBounds, ← flat_set l i xe x' off u hi ho he, ← htake]
      apply List.ext_getElem?
      intro q
      simp only [List.getElem?_take, List.getElem?_set, List.length_take]
      by_cases hq : q < l.length * Flat.sz α
      · simp only [hq, if_true]
        by_cases hq2 : i * Flat.sz α + off = q
        · have h1 : q < cur.toList.length := by
            rw [Array.length_toList, hcs]; omega
          have h2 : q < min (l.length * Flat.sz α) cur.toList.length := by omega
          rw [if_pos hq2, if_pos hq2, if_pos (by omega), if_pos (by omega)]
        · rw [if_neg hq2, if_neg hq2]
      · simp only [hq, if_false]
        split
        · omega
        · rfl
    · obtain ⟨lo, hi'⟩ := fz
      simp only [World.frozen?, hg, Bool.and_eq_false_iff, decide_eq_false_iff_not]
      simp only at hfz
      omega
theorem ef_stlZ {α : Type} [Flat α] {e k off : Nat} {j : Int} {l : List α} {xe x' : α} (hm : Mem w0 T L w) (ht : TOne P t) (hx : evo env x = some (.pointer (some ⟨pB v, pO v + j.toNat * Rep.sz α + off, none⟩))) (hy : evo env y = some u) (h1 : u.oneCell' = true)
    (hk : L[k]? = some (ownZ e v l)) (hi : idx l j = some xe) (he : (Flat.enc xe).set off u = Flat.enc x') (ho : Nat.blt off (Flat.sz α) = true) :
    Ef P n env ⟨d, .store t x y, ty, pos, af, g⟩ w (fun _ w' => Mem w0 T (L.set k (ownZ e v (l.set j.toNat x'))) w') := fun a ha next Q hn => by
  obtain ⟨h0, h2, h3⟩ := idx_some hi
  have ho' : off < Flat.sz α := Nat.le_of_ble_eq_true ho
  have hφ := hm.get hk
  obtain ⟨hnew, hfz, hob⟩ := own_setZ (u := u) hφ h3 ho' he
  have hold : (Flat.enc xe)[off]? = some ((Flat.enc xe)[off]'(by rw [Flat.len]; exact ho')) := List.getElem?_eq_getElem _
  have hc := (slz_of hφ).cells hi off _ hold
  unfold Oper.wp
  rw [run_st1 ht (ha.eval hx) (ha.eval hy) h1 hc hfz]
  exact hn undef _ (hm.upd hk ((chg_setCell ⟨pB v, pO v + j.toNat * Flat.sz α + off, none⟩ u).mono fun g hg => by
    show v.ownBlock = some g
    rw [hob]; exact congrArg some hg.symm) hnew (fun g hg => .inl hg))
end
end Go.Gv
