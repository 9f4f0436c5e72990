/- Lists of lists: a list of headers and the rows that they lead to. Program-independent. -/
import Derived.Test.YtlpkbkbjohhleaaGreatBa
import Derived.Laws.IdiomStrings
import Derived.Lib.SliceRun
import Derived.Lib.AppendStr
namespace Go.Gv
open Go.RowKit

/-- A list's header. -/
abbrev Hdr := {v : Value // v.oneCell' = true}
instance : Flat Hdr where
  sz := 1
  bytes := 24
  enc := fun x => [x.1]
  pos := by decide
  len := fun _ => rfl
  one := fun x u hu => by simp at hu; subst hu; exact x.2
def nilH : Hdr := ⟨.slice none 0 0, rfl⟩

theorem list_choose {β γ : Type} : ∀ (ls : List β) (p : Nat → β → γ → Prop), (∀ i l, ls[i]? = some l → ∃ h, p i l h) → ∃ hs : List γ, hs.length = ls.length ∧ ∀ i h l, hs[i]? = some h → ls[i]? = some l → p i l h
  | [], _, _ => ⟨[], rfl, fun i h l hh => by simp at hh⟩
  | x :: ls, p, hp => by
    obtain ⟨h0, hh0⟩ := hp 0 x rfl
    obtain ⟨hs, hl, hr⟩ := list_choose ls (fun i l h => p (i + 1) l h) (fun i l hl => hp (i + 1) l (by simpa using hl))
    refine ⟨h0 :: hs, by simp [hl], fun i h l hi hli => ?_⟩
    cases i with
    | zero => simp at hi hli; subst hi; subst hli; exact hh0
    | succ i => exact hr i h l (by simpa using hi) (by simpa using hli)

section
variable {α : Type} [Rep α] {R R' : Nat → Prop} {w w' : World} {v : Value} {hs hs' : List Hdr} {ls ls' : List (List α)}

def Rows (R : Nat → Prop) (w : World) (hs : List Hdr) (ls : List (List α)) : Prop := hs.length = ls.length ∧ ∀ (i : Nat) (h : Hdr) (l : List α), hs[i]? = some h → ls[i]? = some l → Sl R w h.1 l
/-- v reads as the headers hs, and these as the rows ls. -/
structure Nl (R : Nat → Prop) (w : World) (v : Value) (hs : List Hdr) (ls : List (List α)) : Prop where
  sp : Sl R w v hs
  rows : Rows R w hs ls

theorem Nl.sl (h : Nl R w v hs ls) : Sl R w v ls := by
  obtain ⟨⟨A, c, hv, hc, hA, hi⟩, hlen, hr⟩ := h
  refine ⟨A, c, by rw [← hlen]; exact hv, by omega, fun hne => hA fun e => hne (by subst e; exact List.eq_nil_of_length_eq_zero hlen.symm), fun i x hx => ?_⟩
  have hlt : i < hs.length := by rw [hlen]; exact (List.getElem?_eq_some_iff.1 hx).1
  obtain ⟨hR, cs, hrep, hcell⟩ := hi i hs[i] (List.getElem?_eq_getElem hlt)
  have : cs = [hs[i].1] := hrep
  subst this
  exact ⟨hR, _, ⟨_, rfl, hr i _ x (List.getElem?_eq_getElem hlt) hx⟩, hcell⟩

theorem Sl.nest (h : Sl R w v ls) : ∃ hs, Nl R w v hs ls := by
  obtain ⟨A, c, hv, hc, hA, hi⟩ := h
  obtain ⟨hs, hlen, hr⟩ := list_choose (γ := Hdr) ls (fun i l h => Sl R w h.1 l ∧ R (pB v) ∧ CellsAt w (pB v) (pO v + i * 1) [h.1]) (fun i l hl => by
    obtain ⟨hR, cs, ⟨u, rfl, hu⟩, hcell⟩ := hi i l hl
    obtain ⟨A', c', hu'⟩ := hu.val
    exact ⟨⟨u, by rw [hu']; rfl⟩, hu, hR, hcell⟩)
  refine ⟨hs, ⟨A, c, by rw [hlen]; exact hv, by omega, fun hne => hA fun e => hne (by subst e; exact List.eq_nil_of_length_eq_zero hlen), fun i x hx => ?_⟩, hlen, fun i h l hh hl => (hr i h l hh hl).1⟩
  have hlt : i < ls.length := by rw [← hlen]; exact (List.getElem?_eq_some_iff.1 hx).1
  obtain ⟨_, h2, h3⟩ := hr i x _ hx (List.getElem?_eq_getElem hlt)
  exact ⟨h2, _, rfl, h3⟩

theorem Rows.mono (h : Rows R w hs ls) (hr : ∀ g, R g → R' g ∧ w'.heap[g]? = w.heap[g]?) : Rows R' w' hs ls := ⟨h.1, fun i z l hz hl => (h.2 i z l hz hl).mono hr⟩
theorem Nl.mono (h : Nl R w v hs ls) (hr : ∀ g, R g → R' g ∧ w'.heap[g]? = w.heap[g]?) : Nl R' w' v hs ls := ⟨h.sp.mono hr, h.rows.mono hr⟩
theorem Nl.of_old {w0 : World} {T : Nat → Prop} {L : List Chunk} (h : Nl (Old w0 T) w0 v hs ls) (hm : Mem w0 T L w) : Nl (Old w0 T) w v hs ls := h.mono fun g hg => ⟨hg, hm.old g hg⟩
theorem Nl.to_call {w0 : World} {T : Nat → Prop} {L : List Chunk} (h : Nl (Old w0 T) w0 v hs ls) (hm : Mem w0 T L w) : Nl (Old w No) w v hs ls := h.mono fun g hg => ⟨⟨Nat.lt_of_lt_of_le hg.1 hm.chg.size, id⟩, hm.old g hg⟩
theorem Nl.to_callT {w0 : World} {T : Nat → Prop} {L : List Chunk} {k : Nat} {c : Chunk} (h : Nl (Old w0 T) w0 v hs ls) (hm : Mem w0 T L w) (hk : L[k]? = some c) : Nl (Old w c.D) w v hs ls := h.mono fun g hg => ⟨hm.old_old hk g hg, hm.old g hg⟩
theorem Rows.nil : Rows (α := α) R w [] [] := ⟨rfl, fun i h l hh => by simp at hh⟩
theorem Nl.nil : Nl (α := α) R w (.slice none 0 0) [] [] := ⟨Sl.nil _ _, Rows.nil⟩
theorem Rows.cons {z : Hdr} {r : Value} {l : List α} (hz : Sl R w r l) (ez : z.1 = r) (h : Rows R w hs ls) : Rows R w (z :: hs) (l :: ls) := ⟨by simp [h.1], fun i z' l' hz' hl' => by
  cases i with
  | zero => simp at hz' hl'; subst hz'; subst hl'; rw [ez]; exact hz
  | succ i => exact h.2 i z' l' (by simpa using hz') (by simpa using hl')⟩
theorem Rows.app {ls2 : List (List α)} {hs2 : List Hdr} (h : Rows R w hs ls) (h2 : Rows R w hs2 ls2) (e : ls' = ls ++ ls2) : Rows R w (hs ++ hs2) ls' := by
  subst e
  refine ⟨by simp [h.1, h2.1], fun i z l hz hl => ?_⟩
  by_cases hi : i < hs.length
  · rw [List.getElem?_append_left hi] at hz
    rw [List.getElem?_append_left (by rw [← h.1]; exact hi)] at hl
    exact h.2 i z l hz hl
  · rw [List.getElem?_append_right (by omega)] at hz
    rw [List.getElem?_append_right (by rw [← h.1]; omega), ← h.1] at hl
    exact h2.2 _ z l hz hl

theorem Nl.row (h : Nl R w v hs ls) {i : Int} {l : List α} (hl : idx ls i = some l) : ∃ z : Hdr, idx hs i = some z := by
  obtain ⟨h0, h1, h2⟩ := idx_some hl
  have hlt : i.toNat < hs.length := by rw [h.rows.1]; omega
  exact ⟨hs[i.toNat], by unfold idx; rw [if_pos h0, List.getElem?_eq_getElem hlt]⟩
theorem Nl.rowg {g : Bool} (h : Nl R w v hs ls) {i : Int} {l : List α} (hl : g = true → idx ls i = some l) : ∃ z : Hdr, g = true → idx hs i = some z := by
  cases g with
  | false => exact ⟨nilH, fun h => by cases h⟩
  | true => obtain ⟨z, hz⟩ := h.row (hl rfl); exact ⟨z, fun _ => hz⟩
theorem Nl.get (h : Nl R w v hs ls) {i : Int} {z : Hdr} {l : List α} (hz : idx hs i = some z) (hl : idx ls i = some l) : Sl R w z.1 l := h.rows.2 _ z l (idx_some hz).2.2 (idx_some hl).2.2
theorem Nl.cells (h : Nl R w v hs ls) {i : Int} {z : Hdr} (hz : idx hs i = some z) : CellsAt w (pB v) (pO v + i.toNat * 1) [z.1] := h.sp.cells hz

theorem Rows.sub {lo hi : Int} (h : Rows R w hs ls) (e : slc ls lo hi = some ls') : Rows R w ((hs.take hi.toNat).drop lo.toNat) ls' := by
  obtain ⟨h0, h1, h2, rfl⟩ := slc_some e
  refine ⟨by simp [h.1], fun i z l hz hl => ?_⟩
  rw [List.getElem?_drop, List.getElem?_take] at hz hl
  split at hz
  · rename_i hlt
    rw [if_pos hlt] at hl
    exact h.2 _ z l hz hl
  · cases hz
theorem Nl.sub {lo hi : Int} (h : Nl R w v hs ls) (e : slc ls lo hi = some ls') : Nl R w (subV v lo hi 1) ((hs.take hi.toNat).drop lo.toNat) ls' := by
  obtain ⟨h0, h1, h2, _⟩ := slc_some e
  refine ⟨h.sp.sub (lo := lo) (hi := hi) ?_, h.rows.sub e⟩
  unfold slc
  rw [if_pos ⟨h0, h1, by rw [h.rows.1]; exact h2⟩]
end

/-! rows that the call owns -/
def rowsC {α : Type} [Flat α] (e : Nat) (hs : List Hdr) (ls : List (List α)) (ho : Option Nat) : Chunk where
  D := fun g => ∃ (i : Nat) (z : Hdr), hs[i]? = some z ∧ ho ≠ some i ∧ z.1.ownBlock = some g
  φ := fun w => hs.length = ls.length ∧ (∀ (i : Nat) (z : Hdr) (l : List α), hs[i]? = some z → ls[i]? = some l → ho ≠ some i → (ownL e z.1 l).φ w) ∧
    (∀ (i j : Nat) (z z' : Hdr) (g : Nat), i ≠ j → hs[i]? = some z → hs[j]? = some z' → ho ≠ some i → ho ≠ some j → z.1.ownBlock = some g → z'.1.ownBlock ≠ some g)
  loc := fun w w' h hφ => ⟨hφ.1, fun i z l hz hl hi => (ownL e z.1 l).loc w w' (fun g hg => h g ⟨i, z, hz, hi, hg⟩) (hφ.2.1 i z l hz hl hi), hφ.2.2⟩
  lt := fun w hφ g ⟨i, z, hz, hi, hg⟩ => by
    have hlt : i < ls.length := by rw [← hφ.1]; exact (List.getElem?_eq_some_iff.1 hz).1
    exact (ownL e z.1 ls[i]).lt w (hφ.2.1 i z _ hz (List.getElem?_eq_getElem hlt) hi) g hg

section
variable {w0 w : World} {T : Nat → Prop} {L : List Chunk} {c c1 c2 : Chunk}
theorem Mem.merge2 (hm : Mem w0 T (c1 :: c2 :: L) w) (hφ : c.φ w) (hD : ∀ g, c.D g → c1.D g ∨ c2.D g) : Mem w0 T (c :: L) w := by
  obtain ⟨a, b, d, e⟩ := hm
  rw [List.pairwise_cons, List.pairwise_cons] at e
  refine ⟨a, fun x hx => ?_, fun x hx g hg => ?_, List.pairwise_cons.2 ⟨fun x hx g hg hg' => ?_, e.2.2⟩⟩
  · rcases List.mem_cons.1 hx with rfl | hx
    · exact hφ
    · exact b x (by simp [hx])
  · rcases List.mem_cons.1 hx with rfl | hx
    · rcases hD g hg with h | h
      · exact d c1 (by simp) g h
      · exact d c2 (by simp) g h
    · exact d x (by simp [hx]) g hg
  · rcases hD g hg with h | h
    · exact e.1 x (by simp [hx]) g h hg'
    · exact e.2.1 x hx g h hg'
theorem Mem.split2 (hm : Mem w0 T (c :: L) w) (h1 : c1.φ w) (h2 : c2.φ w) (hD1 : ∀ g, c1.D g → c.D g) (hD2 : ∀ g, c2.D g → c.D g) (hd : ∀ g, c1.D g → ¬ c2.D g) : Mem w0 T (c1 :: c2 :: L) w := by
  obtain ⟨a, b, d, e⟩ := hm
  rw [List.pairwise_cons] at e
  refine ⟨a, fun x hx => ?_, fun x hx g hg => ?_, List.pairwise_cons.2 ⟨fun x hx g hg hg' => ?_, List.pairwise_cons.2 ⟨fun x hx g hg hg' => e.1 x hx g (hD2 g hg) hg', e.2⟩⟩⟩
  · rcases List.mem_cons.1 hx with rfl | hx
    · exact h1
    · rcases List.mem_cons.1 hx with rfl | hx
      · exact h2
      · exact b x (by simp [hx])
  · rcases List.mem_cons.1 hx with rfl | hx
    · exact d c (by simp) g (hD1 g hg)
    · rcases List.mem_cons.1 hx with rfl | hx
      · exact d c (by simp) g (hD2 g hg)
      · exact d x (by simp [hx]) g hg
  · rcases List.mem_cons.1 hx with rfl | hx
    · exact hd g hg hg'
    · exact e.1 x hx g (hD1 g hg) hg'
theorem Mem.weak1 (hm : Mem w0 T (c :: L) w) (h1 : c1.φ w) (hD1 : ∀ g, c1.D g → c.D g) : Mem w0 T (c1 :: L) w := by
  have h := hm.upd (k := 0) (c' := c1) rfl (Chg.refl _ _) h1 (fun g hg => .inl (hD1 g hg))
  exact h

variable {α : Type} [Flat α] {e e0 : Nat} {hs : List Hdr} {ls ls' : List (List α)} {z : Hdr} {l : List α} {r v : Value}

theorem Mem.rowsNil (hm : Mem w0 T L w) (e : Nat) : Mem w0 T (rowsC e [] ([] : List (List α)) none :: L) w :=
  hm.add (Chg.refl _ _) ⟨rfl, fun i z l hz => by simp at hz, fun i j z z' g _ hz => by simp at hz⟩ (fun g ⟨i, z, hz, _⟩ => by simp at hz)

theorem Mem.rowsRep {n : Int} {bytes : Nat} (hm : Mem w0 T L w) (e : Nat) (hl : mkL bytes n ([] : List α) = some ls) : Mem w0 T (rowsC e (List.replicate n.toNat nilH) ls none :: L) w := by
  unfold mkL at hl
  split at hl
  case isFalse => cases hl
  case isTrue =>
    have := os hl
    subst this
    have hz : ∀ (i : Nat) (z : Hdr), (List.replicate n.toNat nilH)[i]? = some z → z = nilH := fun i z h => by
      have := List.mem_of_getElem? h
      exact List.eq_of_mem_replicate this
    refine hm.add (Chg.refl _ _) ⟨by simp, fun i z l h1 h2 _ => ?_, fun i j z z' g _ h1 h2 _ _ h3 => ?_⟩ (fun g ⟨i, z, h1, _, h3⟩ => ?_)
    · have e2 := List.eq_of_mem_replicate (List.mem_of_getElem? h2)
      rw [hz i z h1, e2]
      exact World.ownsRow_nil w 0 e _
    · rw [hz i z h1] at h3; simp [nilH, Value.ownBlock] at h3
    · rw [hz i z h1] at h3; simp [nilH, Value.ownBlock] at h3

theorem mkL_h {β γ : Type} {n : Int} {bytes : Nat} {z : β} {z' : γ} {l : List β} (h : mkL bytes n z = some l) : mkL bytes n z' = some (List.replicate n.toNat z') := by
  unfold mkL at h ⊢
  split at h
  · rename_i hh; rw [if_pos hh]
  · cases h
theorem app_h {β γ : Type} {b : Nat} {l1 l2 l' : List β} {k1 k2 : List γ} (h : app b l1 l2 = some l') (e1 : k1.length = l1.length) (e2 : k2.length = l2.length) : app b k1 k2 = some (k1 ++ k2) ∧ l' = l1 ++ l2 := by
  unfold app at h ⊢
  split at h
  · rename_i hh; rw [e1, e2, if_pos hh]; exact ⟨rfl, os h⟩
  · cases h

theorem Mem.absorb (hm : Mem w0 T (rowsC e hs ls none :: ownL e r l :: L) w) (ez : z.1 = r) (el : ls' = ls ++ [l]) : Mem w0 T (rowsC e (hs ++ [z]) ls' none :: L) w := by
  subst ez; subst el
  have h1 := hm.own _ List.mem_cons_self
  have h2 := hm.own _ (List.mem_cons_of_mem _ List.mem_cons_self)
  have hd := (List.pairwise_cons.1 hm.disj).1 _ List.mem_cons_self
  obtain ⟨hlen, hrow, hdis⟩ := h1
  have get : ∀ (i : Nat) (z' : Hdr), (hs ++ [z])[i]? = some z' → (i < hs.length ∧ hs[i]? = some z') ∨ (i = hs.length ∧ z' = z) := fun i z' h => by
    by_cases hi : i < hs.length
    · rw [List.getElem?_append_left hi] at h; exact .inl ⟨hi, h⟩
    · rw [List.getElem?_append_right (by omega)] at h
      have : i - hs.length < [z].length := (List.getElem?_eq_some_iff.1 h).1
      have hi' : i = hs.length := by simp at this; omega
      subst hi'
      simp at h
      exact .inr ⟨rfl, h.symm⟩
  refine hm.merge2 ⟨by simp [hlen], fun i z' l' hz hl _ => ?_, fun i j z' z'' g hij hz hz' _ _ hg hg' => ?_⟩ (fun g ⟨i, z', hz, _, hg⟩ => ?_)
  · rcases get i z' hz with ⟨hi, hz⟩ | ⟨rfl, rfl⟩
    · rw [List.getElem?_append_left (by omega)] at hl
      exact hrow i z' l' hz hl (by simp)
    · rw [List.getElem?_append_right (by omega)] at hl
      simp [hlen] at hl
      subst hl
      exact h2
  · rcases get i z' hz with ⟨hi, ka⟩ | ⟨rfl, rfl⟩ <;> rcases get j z'' hz' with ⟨hj, kb⟩ | ⟨rfl, rfl⟩
    · exact hdis i j z' z'' g hij ka kb (by simp) (by simp) hg hg'
    · exact hd g ⟨i, z', ka, by simp, hg⟩ hg'
    · exact hd g ⟨j, z'', kb, by simp, hg'⟩ hg
    · exact hij rfl
  · rcases get i z' hz with ⟨hi, hz⟩ | ⟨rfl, rfl⟩
    · exact .inl ⟨i, z', hz, by simp, hg⟩
    · exact .inr hg

theorem Mem.hole (hm : Mem w0 T (rowsC e hs ls none :: L) w) (i : Nat) : Mem w0 T (rowsC e hs ls (some i) :: L) w := by
  obtain ⟨hlen, hrow, hdis⟩ := hm.own _ List.mem_cons_self
  exact hm.weak1 ⟨hlen, fun i z l hz hl _ => hrow i z l hz hl (by simp), fun i j z z' g hij hz hz' _ _ => hdis i j z z' g hij hz hz' (by simp) (by simp)⟩ fun g ⟨i, z, hz, _, hg⟩ => ⟨i, z, hz, by simp, hg⟩

theorem Mem.fill {i : Nat} (hm : Mem w0 T (rowsC e hs ls (some i) :: ownL e r l :: L) w) (ez : z.1 = r) : Mem w0 T (rowsC e (hs.set i z) (ls.set i l) none :: L) w := by
  subst ez
  have h1 := hm.own _ List.mem_cons_self
  have h2 := hm.own _ (List.mem_cons_of_mem _ List.mem_cons_self)
  have hd := (List.pairwise_cons.1 hm.disj).1 _ List.mem_cons_self
  obtain ⟨hlen, hrow, hdis⟩ := h1
  have get : ∀ (j : Nat) (z' : Hdr), (hs.set i z)[j]? = some z' → (i ≠ j ∧ hs[j]? = some z') ∨ (i = j ∧ z' = z) := fun j z' h => by
    rw [List.getElem?_set] at h
    by_cases hi : i = j
    · rw [if_pos hi] at h
      split at h
      · exact .inr ⟨hi, (os h).symm ▸ rfl⟩
      · cases h
    · rw [if_neg hi] at h; exact .inl ⟨hi, h⟩
  refine hm.merge2 ⟨by simp [hlen], fun j z' l' hz hl _ => ?_, fun j k z' z'' g hij hz hz' _ _ hg hg' => ?_⟩ (fun g ⟨j, z', hz, _, hg⟩ => ?_)
  · rcases get j z' hz with ⟨hi, hz⟩ | ⟨rfl, rfl⟩
    · rw [List.getElem?_set, if_neg hi] at hl
      exact hrow j z' l' hz hl (by simpa using hi)
    · rw [List.getElem?_set, if_pos rfl] at hl
      split at hl
      · have := os hl; subst this; exact h2
      · cases hl
  · rcases get j z' hz with ⟨hi, ka⟩ | ⟨rfl, rfl⟩ <;> rcases get k z'' hz' with ⟨hj, kb⟩ | ⟨rfl, rfl⟩
    · exact hdis j k z' z'' g hij ka kb (by simpa using hi) (by simpa using hj) hg hg'
    · exact hd g ⟨j, z', ka, by simpa using hi, hg⟩ hg'
    · exact hd g ⟨k, z'', kb, by simpa using hj, hg'⟩ hg
    · exact hij rfl
  · rcases get j z' hz with ⟨hi, hz⟩ | ⟨rfl, rfl⟩
    · exact .inl ⟨j, z', hz, by simpa using hi, hg⟩
    · exact .inr hg

theorem Mem.focus {i : Int} (hm : Mem w0 T (rowsC e hs ls none :: L) w) (hz : idx hs i = some z) (hl : idx ls i = some l) : Mem w0 T (rowsC e hs ls (some i.toNat) :: ownL e z.1 l :: L) w := by
  obtain ⟨hlen, hrow, hdis⟩ := hm.own _ List.mem_cons_self
  have hz' := (idx_some hz).2.2
  have hl' := (idx_some hl).2.2
  refine hm.split2 ⟨hlen, fun j z l h1 h2 _ => hrow j z l h1 h2 (by simp), fun j k z z' g hjk h1 h2 _ _ => hdis j k z z' g hjk h1 h2 (by simp) (by simp)⟩ (hrow _ z l hz' hl' (by simp))
    (fun g ⟨j, z', h1, _, hg⟩ => ⟨j, z', h1, by simp, hg⟩) (fun g hg => ⟨i.toNat, z, hz', by simp, hg⟩) (fun g ⟨j, z', h1, h2, hg⟩ hg' => ?_)
  exact hdis j i.toNat z' z g (fun e => h2 (by rw [e])) h1 hz' (by simp) (by simp) hg hg'

theorem Mem.rows (hm : Mem w0 T L w) (k : Nat) (hk : L[k]? = some (rowsC e hs ls none)) : Rows (rowsC e hs ls none).D w hs ls := by
  obtain ⟨hlen, hrow, _⟩ := hm.get hk
  exact ⟨hlen, fun i z l hz hl => (sl_of_own (hrow i z l hz hl (by simp))).mono fun g hg => ⟨⟨i, z, hz, by simp, hg⟩, rfl⟩⟩
theorem Mem.rows_call (hm : Mem w0 T L w) (k : Nat) (hk : L[k]? = some (rowsC e hs ls none)) : Rows (Old w No) w hs ls :=
  (hm.rows k hk).mono fun g hg => ⟨⟨(rowsC e hs ls none).lt w (hm.get hk) g hg, id⟩, rfl⟩
section
variable {P : Program} {n : Nat} {env : Env} {d : Option Nat} {ty : TypeId} {pos : String} {af : Array Edge} {g : Option (Nat × Bool)} {x y : Operand} {u : Value} {t : TypeId}
theorem ef_strow {off : Nat} {i j : Int} {xe x' : α} (hm : Mem w0 T (rowsC e hs ls none :: L) w) (ht : TOne P t) (hz : idx hs i = some z) (hl : idx ls i = some l)
    (hx : evo env x = some (.pointer (some ⟨pB z.1, pO z.1 + j.toNat * Rep.sz α + off, none⟩))) (hy : evo env y = some u) (h1 : u.oneCell' = true)
    (hi : idx l j = some xe) (he : (Flat.enc xe).set off u = Flat.enc x') (ho : Nat.blt off (Flat.sz α) = true) :
    Ef P n env ⟨d, .store t x y, ty, pos, af, g⟩ w (fun _ w' => Mem w0 T (rowsC e hs (ls.set i.toNat (l.set j.toNat x')) none :: L) w') :=
  (ef_stl (k := 1) (off := off) (x' := x') (hm.focus hz hl) ht hx hy h1 rfl hi he ho).mono fun _ w' h => by
    have h2 := Mem.fill (z := z) h rfl
    have e : hs.set i.toNat z = hs := by
      have hz' := (idx_some hz).2.2
      apply List.ext_getElem?
      intro k
      rw [List.getElem?_set]
      split
      · rename_i hk; subst hk
        rw [hz', if_pos (List.getElem?_eq_some_iff.1 hz').1]
      · rfl
    rw [e] at h2
    exact h2
end
end
end Go.Gv
namespace Go.Gv
open Go.RowKit
/-! whole numbers of other kinds -/
def bs (l : List UInt8) : ByteArray := ⟨l.toArray⟩
section
variable {P : Program} {n : Nat} {env : Env} {w w0 : World} {T : Nat → Prop} {L : List Chunk} {d : Option Nat} {ty : TypeId} {pos : String} {af : Array Edge} {g : Option (Nat × Bool)} {x y : Operand} {v u : Value} {t t' : TypeId} {a b s : Int} {k k' : IntKind}

theorem rd_cv (hs : (P.underlying t).isSome = true) (ht : P.underlying t' = some (.int k')) (hx : evo env x = some (.int k a)) : Rd P n env ⟨d, .convert t t' x, ty, pos, af, g⟩ w (.int k' (k'.wrap a)) := rd_mk fun ρ hρ => by
  have e := hρ _ _ hx
  cases hs' : P.underlying t with
  | none => rw [hs'] at hs; cases hs
  | some q => simp [execOp, e, convert, Conv.intToInt, run_underlying ht, run_underlying hs']
theorem rd_cv64 (hs : (P.underlying t).isSome = true) (ht : P.underlying t' = some (.int .i64)) (h : in64 a = some b) (hx : evo env x = some (.int k a)) : Rd P n env ⟨d, .convert t t' x, ty, pos, af, g⟩ w (.int .i64 b) := by
  obtain ⟨rfl, hw⟩ := in64_some h
  have := rd_cv (n := n) (w := w) (d := d) (ty := ty) (pos := pos) (af := af) (g := g) hs ht hx
  rwa [hw] at this
theorem rd_cv8 (hs : (P.underlying t).isSome = true) (ht : P.underlying t' = some (.int .u8)) (hx : evo env x = some (.int k a)) : Rd P n env ⟨d, .convert t t' x, ty, pos, af, g⟩ w (.int .u8 ((toU8 a).toNat : Int)) := by
  have := rd_cv (n := n) (w := w) (d := d) (ty := ty) (pos := pos) (af := af) (g := g) hs ht hx
  rwa [IntKind.wrap_u8, ← toU8_toNat] at this
theorem rd_cvu64 (hs : (P.underlying t).isSome = true) (ht : P.underlying t' = some (.int .u64)) (hx : evo env x = some (.int k a)) : Rd P n env ⟨d, .convert t t' x, ty, pos, af, g⟩ w (.int .u64 (a % 18446744073709551616)) := by
  have := rd_cv (n := n) (w := w) (d := d) (ty := ty) (pos := pos) (af := af) (g := g) hs ht hx
  rwa [IntKind.wrap_u64] at this

theorem rd_bits {op : BinOp} {f : Nat → Nat → Nat} {c : Int} {m : Nat} (hop : ∀ (k : IntKind) (x y : Int), (∀ z : Int, 0 ≤ z → z < 2 ^ m → k.wrap z = z) → m ≤ k.bits → (0 ≤ x ∧ x < 2 ^ m) → (0 ≤ y ∧ y < 2 ^ m) → (binOp op t (.int k x) (.int k y)).run P w = .ok (.int k ((f x.toNat y.toNat : Nat) : Int)) w)
    (hw : ∀ z : Int, 0 ≤ z → z < 2 ^ m → k.wrap z = z) (hm : m ≤ k.bits) (h : bitN f m a b = some c) (hx : evo env x = some (.int k a)) (hy : evo env y = some (.int k b)) :
    Rd P n env ⟨d, .binOp op t x y t', ty, pos, af, g⟩ w (.int k c) := by
  unfold bitN at h
  split at h
  · rename_i hh
    have := os h
    subst this
    exact rd_bin hx hy guard_int (hop k a b hw hm hh.1 hh.2)
  · cases h
theorem ofInt_toNat {m : Nat} {x : Int} (h0 : 0 ≤ x) (h1 : x < 2 ^ m) : (BitVec.ofInt m x).toNat = x.toNat := by
  rw [BitVec.toNat_ofInt]
  congr 1
  exact Int.emod_eq_of_lt h0 (by exact_mod_cast h1)
theorem lift2 {m k : Nat} {x : Int} (hk : m ≤ k) (h1 : x < 2 ^ m) : x < 2 ^ k := Int.lt_of_lt_of_le h1 (by exact_mod_cast Nat.pow_le_pow_right (by decide) hk)
theorem natlt {m : Nat} {x : Int} (h0 : 0 ≤ x) (h1 : x < 2 ^ m) : x.toNat < 2 ^ m := by
  have h2 : (x.toNat : Int) < ((2 ^ m : Nat) : Int) := by rw [Int.toNat_of_nonneg h0]; exact_mod_cast h1
  exact_mod_cast h2
theorem op_or {m : Nat} (k : IntKind) (x y : Int) (hw : ∀ z : Int, 0 ≤ z → z < 2 ^ m → k.wrap z = z) (hm : m ≤ k.bits) (hx : 0 ≤ x ∧ x < 2 ^ m) (hy : 0 ≤ y ∧ y < 2 ^ m) : (binOp .or t (.int k x) (.int k y)).run P w = .ok (.int k ((x.toNat ||| y.toNat : Nat) : Int)) w := by
  have hlt := Nat.or_lt_two_pow (natlt hx.1 hx.2) (natlt hy.1 hy.2)
  have e := hw ((x.toNat ||| y.toNat : Nat) : Int) (Int.natCast_nonneg _) (by exact_mod_cast hlt)
  simp [binOp, Op.intBits, BitVec.toNat_or, ofInt_toNat hx.1 (lift2 hm hx.2), ofInt_toNat hy.1 (lift2 hm hy.2), e]
theorem op_and {m : Nat} (k : IntKind) (x y : Int) (hw : ∀ z : Int, 0 ≤ z → z < 2 ^ m → k.wrap z = z) (hm : m ≤ k.bits) (hx : 0 ≤ x ∧ x < 2 ^ m) (hy : 0 ≤ y ∧ y < 2 ^ m) : (binOp .and t (.int k x) (.int k y)).run P w = .ok (.int k ((x.toNat &&& y.toNat : Nat) : Int)) w := by
  have hlt := Nat.and_lt_two_pow (x := x.toNat) (natlt hy.1 hy.2)
  have e := hw ((x.toNat &&& y.toNat : Nat) : Int) (Int.natCast_nonneg _) (by exact_mod_cast hlt)
  simp [binOp, Op.intBits, BitVec.toNat_and, ofInt_toNat hx.1 (lift2 hm hx.2), ofInt_toNat hy.1 (lift2 hm hy.2), e]
theorem rd_bits_or_i64 {c : Int} (h : orN 63 a b = some c) (hx : evo env x = some (.int .i64 a)) (hy : evo env y = some (.int .i64 b)) : Rd P n env ⟨d, .binOp .or t x y t', ty, pos, af, g⟩ w (.int .i64 c) :=
  rd_bits (m := 63) op_or (fun z h0 h1 => by rw [IntKind.wrap_i64]; omega) (by decide) h hx hy
theorem rd_bits_and_i64 {c : Int} (h : andN 63 a b = some c) (hx : evo env x = some (.int .i64 a)) (hy : evo env y = some (.int .i64 b)) : Rd P n env ⟨d, .binOp .and t x y t', ty, pos, af, g⟩ w (.int .i64 c) :=
  rd_bits (m := 63) op_and (fun z h0 h1 => by rw [IntKind.wrap_i64]; omega) (by decide) h hx hy
theorem rd_shl (hy0 : 0 ≤ b) {kk : IntKind} (hx : evo env x = some (.int k a)) (hy : evo env y = some (.int kk b)) : Rd P n env ⟨d, .binOp .shl t x y t', ty, pos, af, g⟩ w (.int k (k.wrap (a * 2 ^ (min b.toNat k.bits)))) :=
  rd_bin hx hy guard_int (by simp [binOp, Op.shift, show ¬ b < 0 by omega])
theorem rd_shr (hy0 : 0 ≤ b) {kk : IntKind} (hx : evo env x = some (.int k a)) (hy : evo env y = some (.int kk b)) : Rd P n env ⟨d, .binOp .shr t x y t', ty, pos, af, g⟩ w (.int k (a.fdiv (2 ^ (min b.toNat k.bits)))) :=
  rd_bin hx hy guard_int (by simp [binOp, Op.shift, show ¬ b < 0 by omega])
theorem rd_shr_u64 {c : Int} {kk : IntKind} (h : shr_u64 a b = some c) (hx : evo env x = some (.int .u64 a)) (hy : evo env y = some (.int kk b)) : Rd P n env ⟨d, .binOp .shr t x y t', ty, pos, af, g⟩ w (.int .u64 c) := by
  unfold shr_u64 shrW at h
  split at h
  · rename_i h0
    have := os h; subst this
    exact rd_shr (P := P) (n := n) (w := w) (d := d) (ty := ty) (pos := pos) (af := af) (g := g) (t := t) (t' := t') h0 hx hy
  · cases h
theorem rd_shr_i64 {c : Int} {kk : IntKind} (h : shr_i64 a b = some c) (hx : evo env x = some (.int .i64 a)) (hy : evo env y = some (.int kk b)) : Rd P n env ⟨d, .binOp .shr t x y t', ty, pos, af, g⟩ w (.int .i64 c) := by
  unfold shr_i64 shrW at h
  split at h
  · rename_i h0
    have := os h; subst this
    exact rd_shr (P := P) (n := n) (w := w) (d := d) (ty := ty) (pos := pos) (af := af) (g := g) (t := t) (t' := t') h0 hx hy
  · cases h
theorem rd_shl_i64 {c : Int} {kk : IntKind} (h : shl_i64 a b = some c) (hx : evo env x = some (.int .i64 a)) (hy : evo env y = some (.int kk b)) : Rd P n env ⟨d, .binOp .shl t x y t', ty, pos, af, g⟩ w (.int .i64 c) := by
  unfold shl_i64 at h
  split at h
  · rename_i h0
    obtain ⟨rfl, hw⟩ := in64_some h
    have := rd_shl (P := P) (n := n) (w := w) (d := d) (ty := ty) (pos := pos) (af := af) (g := g) (t := t) (t' := t') h0 hx hy
    have hw' : IntKind.i64.wrap (a * 2 ^ (min b.toNat IntKind.i64.bits)) = a * 2 ^ (min b.toNat 64) := hw
    rwa [hw'] at this
  · cases h
theorem rd_shl_u8 {c : UInt8} {kk : IntKind} (h : shl_u8 a b = some c) (hx : evo env x = some (.int .u8 a)) (hy : evo env y = some (.int kk b)) : Rd P n env ⟨d, .binOp .shl t x y t', ty, pos, af, g⟩ w (.int .u8 (c.toNat : Int)) := by
  unfold shl_u8 at h
  split at h
  · rename_i h0
    have := os h; subst this
    have := rd_shl (P := P) (n := n) (w := w) (d := d) (ty := ty) (pos := pos) (af := af) (g := g) (t := t) (t' := t') h0 hx hy
    rw [IntKind.wrap_u8, ← toU8_toNat] at this
    exact this
  · cases h
/-! strings -/
theorem bs_size (l : List UInt8) : (bs l).size = l.length := by simp [bs, ByteArray.size]
theorem rd_lenst {l : List UInt8} (ht : P.underlying t = some .string) (hx : evo env x = some (.string (bs l))) : Rd P n env ⟨d, .call { callee := .builtin .len, args := #[x], argTypes := #[t] }, ty, pos, af, g⟩ w (.int .i64 (l.length : Int)) := by
  have := rd_lens (n := n) (w := w) (d := d) (ty := ty) (pos := pos) (af := af) (g := g) ht hx
  rwa [bs_size] at this
theorem rd_cat {a b c : List UInt8} (h : appS a b = some c) (hx : evo env x = some (.string (bs a))) (hy : evo env y = some (.string (bs b))) : Rd P n env ⟨d, .binOp .add t x y t', ty, pos, af, g⟩ w (.string (bs c)) := by
  unfold appS at h
  split at h
  · rename_i hh
    have := os h; subst this
    refine rd_bin hx hy guard_string ?_
    have e : bs a ++ bs b = bs (a ++ b) := by
      apply ByteArray.ext
      simp [bs, ByteArray.data_append]
    have hle : ¬ (((a.length + b.length : Nat) : Int) > IntKind.i64.max) := by
      have : IntKind.i64.max = 9223372036854775807 := by decide
      rw [this]; omega
    simp only [binOp, Op.stringOp, bs_size, e]
    rw [if_neg hle]; rfl
  · cases h
theorem rd_eqst {a b : List UInt8} (hx : evo env x = some (.string (bs a))) (hy : evo env y = some (.string (bs b))) : Rd P n env ⟨d, .binOp .eql t x y t', ty, pos, af, g⟩ w (.bool (decide (a = b))) :=
  rd_bin hx hy guard_string (by simp only [binOp, Op.stringOp, bs, ByteArray.toList_eq, Sem.run_pure, (show ∀ a b : List UInt8, (a == b) = decide (a = b) from fun a b => by rw [Bool.eq_iff_iff]; simp)])
theorem rd_neqst {a b : List UInt8} (hx : evo env x = some (.string (bs a))) (hy : evo env y = some (.string (bs b))) : Rd P n env ⟨d, .binOp .neq t x y t', ty, pos, af, g⟩ w (.bool (!decide (a = b))) :=
  rd_bin hx hy guard_string (by simp only [binOp, Op.stringOp, bs, ByteArray.toList_eq, Sem.run_pure, (show ∀ a b : List UInt8, (a == b) = decide (a = b) from fun a b => by rw [Bool.eq_iff_iff]; simp)])

/-! lists that are only read from now on -/
def roL {α : Type} [Rep α] (v : Value) (l : List α) : Chunk where
  D := fun g => v.ownBlock = some g
  φ := fun w => Sl (fun g => v.ownBlock = some g) w v l ∧ ∀ g, v.ownBlock = some g → g < w.heap.size
  loc := fun w w' h hφ => ⟨hφ.1.mono fun g hg => ⟨hg, h g hg⟩, fun g hg => by
    have h1 := h g hg
    have h2 := hφ.2 g hg
    rw [Array.getElem?_eq_getElem h2] at h1
    exact (Array.getElem?_eq_some_iff.1 h1).1⟩
  lt := fun w hφ g hg => hφ.2 g hg
section
variable {α : Type} [Rep α] {l : List α}
theorem Mem.ro (hm : Mem w0 T L w) (k : Nat) (hk : L[k]? = some (roL v l)) : Sl (roL v l).D w v l := (hm.get hk).1
end
theorem rowI {β : Type} {hs : List Hdr} {ls : List β} {i : Int} {l : β} (h : hs.length = ls.length) (hl : idx ls i = some l) : ∃ z : Hdr, idx hs i = some z := by
  obtain ⟨h0, h1, h2⟩ := idx_some hl
  have hlt : i.toNat < hs.length := by rw [h]; omega
  exact ⟨hs[i.toNat], by unfold idx; rw [if_pos h0, List.getElem?_eq_getElem hlt]⟩

section
variable {α : Type} [Rep α] {l l' : List α} {v' : Value}
end

end
end Go.Gv
namespace Go.Gv
open Go.RowKit
/-! maps from whole numbers -/
class MV (β : Type) where
  val : β → Value
instance : MV Int := ⟨fun x => .int .i64 x⟩
instance : MV Bool := ⟨fun x => .bool x⟩

def mapC {β : Type} [MV β] (b : Nat) (m : List (Int × β)) : Chunk where
  D := fun k => k = b
  φ := fun w => ∃ es clock, w.heap[b]? = some (.map es clock) ∧ es.toList.map (fun e => (e.key, e.val)) = m.map (fun p => (Value.int .i64 p.1, MV.val p.2))
  loc := fun w w' h hφ => by
    obtain ⟨es, cl, h1, h2⟩ := hφ
    exact ⟨es, cl, (h b rfl).trans h1, h2⟩
  lt := fun w hφ k hk => by
    obtain ⟨es, cl, h1, h2⟩ := hφ
    subst hk
    exact (Array.getElem?_eq_some_iff.1 h1).1

section
variable {P : Program} {n : Nat} {env : Env} {w w0 : World} {T : Nat → Prop} {L : List Chunk} {d : Option Nat} {ty : TypeId} {pos : String} {af : Array Edge} {g : Option (Nat × Bool)} {x y z : Operand} {v u : Value} {t : TypeId} {β : Type} [MV β] {b kt et : Nat} {m : List (Int × β)} {k : Int} {kk : IntKind}

theorem mvB {o : Option Bool} : (o.map MV.val).getD (.bool false) = .bool (o.getD false) := by cases o <;> rfl
/-! arrays of whole numbers -/
theorem rd_idxa {e N : Nat} {l : List Int} {kj kv : IntKind} {j r : Int} (ht : P.underlying t = some (.array N e)) (he : TOne P e) (hN : l.length = N) (hx : evo env x = some (.agg (l.map (Value.int kv)).toArray)) (hy : evo env y = some (.int kj j)) (hj : idx l j = some r) :
    Rd P n env ⟨d, .index t x y, ty, pos, af, g⟩ w (.int kv r) := rd_mk fun ρ hρ => by
  obtain ⟨h0, h1, h2⟩ := idx_some hj
  have hs := run_sizeOf_t (P := P) (w := w) he.2
  have ha := run_isAgg_f (P := P) (w := w) he
  have hlt : j < (N : Int) := by omega
  simp [execOp, hρ _ _ hx, hρ _ _ hy, Instr.index, asIntOf, run_underlying ht, h0, hlt, hs, part, ha, h2]
end

/-! function values -/
section
variable {P : Program} {n : Nat} {env : Env} {w w0 : World} {T : Nat → Prop} {L : List Chunk} {d : Option Nat} {ty : TypeId} {pos : String} {af : Array Edge} {g : Option (Nat × Bool)}
/-- A call through a value that holds a function and what it has captured. -/
theorem ef_callv {f : Nat} {c : Operand} {as : List Operand} {at_ : Array TypeId} {vs cb : List Value} {R : Value → World → Prop} (ht : TFn P f) (hc : evo env c = some (.func (.func f) #[] cb.toArray)) (ha : evl env as = some vs) (h : CallsR P f (vs ++ cb) w R) :
    Ef P n env ⟨d, .call { callee := .value c, args := as.toArray, argTypes := at_ }, ty, pos, af, g⟩ w R := fun a hag next Q hn => by
  have hm := evl_map (fun x v hx => hag.eval hx) ha
  have h1 := hag.eval hc
  have hr : (execOp a.eval ⟨d, .call { callee := .value c, args := as.toArray, argTypes := at_ }, ty, pos, af, g⟩).run P w = .ok (.enter f (vs ++ cb).toArray) w := by
    obtain ⟨fn, c, hf, hb, hnm⟩ := ht
    have hnm' : ¬ fn.name = "runtime.NumGoroutine" := by simpa using hnm
    generalize a.eval = ρ at hm h1 ⊢
    simp [execOp, resolve, invoke, Deferred.ofValue, callFunc, h1, hm, go_sem, hf, hb, hnm']
  unfold Oper.wp
  rw [hr]
  exact Calls.mono h fun e w' ⟨v, he, hR⟩ => by subst he; exact hn v w' hR
theorem rd_makeFunc {f : Nat} {cs : List Operand} {vs : List Value} (ha : evl env cs = some vs) : Rd P n env ⟨d, .makeFunc (.func f) #[] cs.toArray, ty, pos, af, g⟩ w (.func (.func f) #[] vs.toArray) := fun a hag => by
  have hm := evl_map (fun x v hx => hag.eval hx) ha
  generalize a.eval = ρ at hm ⊢
  simp [execOp, Instr.makeFunc, hm, go_sem]
end
/-- A box that holds a list's header reads as a list of one list. -/
theorem sl_box {α : Type} [Rep α] {R : Nat → Prop} {w : World} {gn : Nat} {vl : Value} {l : List α} (hR : R gn) (hc : CellsAt w gn 0 [vl]) (hs : Sl R w vl l) : Sl R w (.slice (some ⟨gn, 0, none⟩) 1 1) [l] := by
  refine ⟨some ⟨gn, 0, none⟩, 1, rfl, Nat.le_refl _, fun _ => ⟨gn, 0, rfl⟩, fun i x hx => ?_⟩
  cases i with
  | succ i => simp at hx
  | zero =>
    simp at hx
    subst hx
    exact ⟨hR, [vl], ⟨vl, rfl, hs⟩, fun j u hu => by
      have := hc j u hu
      simpa [pB, pO] using this⟩
theorem Mem.box_callT {α : Type} [Rep α] {w0 w : World} {T : Nat → Prop} {L : List Chunk} {gn t : Nat} {vl : Value} {l : List α} {c : Chunk} (hm : Mem w0 T L w) (k j : Nat) (hk : L[k]? = some (Gv.blk gn t [vl])) (hj : L[j]? = some c) (hne : k ≠ j) (hs : Sl (Old w c.D) w vl l) : Sl (Old w c.D) w (.slice (some ⟨gn, 0, none⟩) 1 1) [l] :=
  sl_box ⟨(Gv.blk gn t [vl]).lt w (hm.get hk) gn rfl, pairwise_at disj_symm hm.disj hk hj hne gn rfl⟩ (hm.blk k hk) hs

section
variable {α : Type} {w0 w : World} {T : Nat → Prop} {L : List Chunk} {v : Value} {l : List α} {b : Bool}
end
end Go.Gv
/-! full slices: the front with its own end as capacity; an append to it makes a new list -/
namespace Go.Gv
open Go.RowKit
section
variable {P : Program} {n : Nat} {ops : Array Oper} {env : Env} {w w0 : World} {T : Nat → Prop} {L : List Chunk} {t ty : TypeId} {x y xh : Operand} {v : Value} {d : Option Nat} {pos : String} {af : Array Edge} {g : Option (Nat × Bool)}
theorem sl_news {α : Type} [Flat α] {R : Nat → Prop} {b o c : Nat} {lx : List α} (hs : Sl R w (.slice (some ⟨b, o, none⟩) lx.length c) lx) : ∀ j u, (lx.flatMap Flat.enc)[j]? = some u → w.cell? ((⟨b, o, none⟩ : Addr).add j) = some u := by
  obtain ⟨_, _, _, _, _, hel⟩ := hs
  intro j u hu
  have hjl : j < lx.length * Flat.sz α := by
    rw [← flat_len lx]; exact (List.getElem?_eq_some_iff.1 hu).1
  have hpos : 0 < Flat.sz α := Flat.pos
  have hq : j / Flat.sz α < lx.length := Nat.div_lt_of_lt_mul (by rw [Nat.mul_comm]; exact hjl)
  have hm' : j % Flat.sz α < Flat.sz α := Nat.mod_lt _ hpos
  obtain ⟨_, cs, hrep, hcell⟩ := hel (j / Flat.sz α) _ (List.getElem?_eq_getElem hq)
  have hcs : cs = Flat.enc lx[j / Flat.sz α] := hrep
  subst hcs
  have hu2 : (Flat.enc lx[j / Flat.sz α])[j % Flat.sz α]? = some ((Flat.enc lx[j / Flat.sz α])[j % Flat.sz α]'(by rw [Flat.len]; exact hm')) := List.getElem?_eq_getElem _
  have h1 := flat_get lx (j / Flat.sz α) _ (j % Flat.sz α) _ (List.getElem?_eq_getElem hq) hu2
  have e3 : j / Flat.sz α * Flat.sz α + j % Flat.sz α = j := by rw [Nat.mul_comm]; exact Nat.div_add_mod _ _
  rw [e3] at h1
  rw [h1] at hu
  injection hu with hu
  subst hu
  have h2 := hcell (j % Flat.sz α) _ hu2
  have hadd : (⟨b, o, none⟩ : Addr).add j = ⟨b, o + j, none⟩ := by unfold Addr.add; split <;> simp_all
  rw [hadd, ← h2]
  congr 2
  show o + j = o + j / Flat.sz α * Flat.sz α + j % Flat.sz α
  omega
/-- a list out of an array of lists -/
theorem Rows.get {α : Type} [Rep α] {R : Nat → Prop} {hs : List Hdr} {ls : List (List α)} (h : Rows R w hs ls) {i : Int} {z : Hdr} {l : List α} (hz : idx hs i = some z) (hl : idx ls i = some l) : Sl R w z.1 l := h.2 _ z l (idx_some hz).2.2 (idx_some hl).2.2
end
end Go.Gv

/-! several parts of memory as one; boxes of a caller -/
namespace Go.Gv
open Go.RowKit
section
variable {P : Program} {n : Nat} {ops : Array Oper} {Q : Exit → Env → World → Prop} {S : World → Prop} {T : Nat → Nat} {fuel : Nat} {listed : Array Bool} {env : Env} {w : World}
end
def bunD : List Chunk → Nat → Prop
  | [], _ => False
  | c :: L, g => c.D g ∨ bunD L g
theorem bunD_iff : ∀ {L : List Chunk} {g : Nat}, bunD L g ↔ ∃ c ∈ L, c.D g
  | [], g => by simp [bunD]
  | c :: L, g => by
    show c.D g ∨ bunD L g ↔ _
    rw [bunD_iff]
    constructor
    · rintro (h | ⟨c', h1, h2⟩)
      · exact ⟨c, List.mem_cons_self, h⟩
      · exact ⟨c', List.mem_cons_of_mem _ h1, h2⟩
    · rintro ⟨c', h1, h2⟩
      rcases List.mem_cons.1 h1 with rfl | h1
      · exact .inl h2
      · exact .inr ⟨c', h1, h2⟩
def bunC (L : List Chunk) : Chunk where
  D := bunD L
  φ := fun w => (∀ c ∈ L, c.φ w) ∧ L.Pairwise fun (c c' : Chunk) => ∀ g : Nat, c.D g → ¬ c'.D g
  loc := fun w w' h hφ => ⟨fun c hc => c.loc w w' (fun g hg => h g (bunD_iff.2 ⟨c, hc, hg⟩)) (hφ.1 c hc), hφ.2⟩
  lt := fun w hφ g hg => by
    obtain ⟨c, hc, h⟩ := bunD_iff.1 hg
    exact c.lt w (hφ.1 c hc) g h
section
variable {w0 w : World} {T : Nat → Prop} {L La Lb : List Chunk}
theorem Mem.opened (h : (bunC L).φ w) : Mem w (bunC L).D L w := ⟨Chg.refl _ _, h.1, fun c hc _ hg => .inr (bunD_iff.2 ⟨c, hc, hg⟩), h.2⟩
theorem Mem.bundle (La Lb : List Chunk) (hm : Mem w0 T (La ++ Lb) w) : Mem w0 T (bunC La :: Lb) w := by
  obtain ⟨h1, h2, h3, h4⟩ := hm
  rw [List.pairwise_append] at h4
  refine ⟨h1, fun c hc => ?_, fun c hc g hg => ?_, List.pairwise_cons.2 ⟨fun c hc g hg hg' => ?_, h4.2.1⟩⟩
  · rcases List.mem_cons.1 hc with rfl | hc
    · exact ⟨fun c hc => h2 c (List.mem_append.2 (.inl hc)), h4.1⟩
    · exact h2 c (List.mem_append.2 (.inr hc))
  · rcases List.mem_cons.1 hc with rfl | hc
    · obtain ⟨c', hc', h⟩ := bunD_iff.1 hg
      exact h3 c' (List.mem_append.2 (.inl hc')) g h
    · exact h3 c (List.mem_append.2 (.inr hc)) g hg
  · obtain ⟨c', hc', h⟩ := bunD_iff.1 hg
    exact h4.2.2 c' hc' c hc g h hg'
theorem Mem.unbundle (La Lb : List Chunk) (hm : Mem w0 T (bunC La :: Lb) w) : Mem w0 T (La ++ Lb) w := by
  obtain ⟨h1, h2, h3, h4⟩ := hm
  obtain ⟨h5, h6⟩ := List.pairwise_cons.1 h4
  have hb := h2 (bunC La) List.mem_cons_self
  refine ⟨h1, fun c hc => ?_, fun c hc g hg => ?_, List.pairwise_append.2 ⟨hb.2, h6, fun c hc c' hc' g hg hg' => ?_⟩⟩
  · rcases List.mem_append.1 hc with hc | hc
    · exact hb.1 c hc
    · exact h2 c (List.mem_cons_of_mem _ hc)
  · rcases List.mem_append.1 hc with hc | hc
    · exact h3 (bunC La) List.mem_cons_self g (bunD_iff.2 ⟨c, hc, hg⟩)
    · exact h3 c (List.mem_cons_of_mem _ hc) g hg
  · exact h5 c' hc' g (bunD_iff.2 ⟨c, hc, hg⟩) hg'
/-- A callee that changes part k, whose blocks may change, and hands back nothing else. -/
theorem Mem.callM {X : Nat → Prop} {c c' : Chunk} {w' : World} {k : Nat} (hm : Mem w0 T L w) (hk : L[k]? = some c) (hX : ∀ g, X g → c.D g) (hc : Mem w X [c'] w') : Mem w0 T (L.set k c') w' :=
  hm.upd hk (hc.chg.mono hX) (hc.own c' List.mem_cons_self) (fun g hg => (hc.dom c' List.mem_cons_self g hg).elim .inr fun h => .inl (hX g h))
/-- The cell of a box. -/
def BoxAt (R : Nat → Prop) (w : World) (g : Nat) (v : Value) : Prop := R g ∧ CellsAt w g 0 [v]
theorem BoxAt.of_old {g : Nat} {v : Value} (h : BoxAt (Old w0 T) w0 g v) (hm : Mem w0 T L w) : BoxAt (Old w0 T) w g v := ⟨h.1, h.2.mono (hm.old g h.1)⟩
theorem BoxAt.to_call {g : Nat} {v : Value} (h : BoxAt (Old w0 T) w0 g v) (hm : Mem w0 T L w) : BoxAt (Old w No) w g v := ⟨⟨Nat.lt_of_lt_of_le h.1.1 hm.chg.size, id⟩, h.2.mono (hm.old g h.1)⟩
theorem BoxAt.to_callT {g k : Nat} {v : Value} {c : Chunk} (h : BoxAt (Old w0 T) w0 g v) (hm : Mem w0 T L w) (hk : L[k]? = some c) : BoxAt (Old w c.D) w g v := ⟨hm.old_old hk g h.1, h.2.mono (hm.old g h.1)⟩
end
end Go.Gv
namespace Go.Gv
open Go.RowKit
section
variable {P : Program} {n : Nat} {env : Env} {w w0 : World} {T : Nat → Prop} {L : List Chunk} {d : Option Nat} {ty : TypeId} {pos : String} {af : Array Edge} {g : Option (Nat × Bool)} {x y : Operand} {v vx : Value} {t : TypeId}
/-! a list of its own whose block bears a mark behind its end (the bytes of a string) -/
def ownZ {α : Type} [Flat α] (e : Nat) (v : Value) (l : List α) : Chunk where
  D := fun g => v.ownBlock = some g
  φ := fun w => (v = .slice none 0 0 ∧ l = []) ∨ ∃ g cap cur fz, v = .slice (some ⟨g, 0, none⟩) l.length cap ∧ w.heap[g]? = some (.cells cur e fz) ∧ (fz.2 = 0 ∨ cur.size ≤ fz.1) ∧ l.length ≤ cap ∧ cap ≤ maxLen ∧ cur.size = cap * Flat.sz α ∧ cur.toList.take (l.length * Flat.sz α) = l.flatMap Flat.enc
  loc := fun w w' h hφ => by
    rcases hφ with hn | ⟨g, cap, cur, fz, rfl, hg, rest⟩
    · exact .inl hn
    · exact .inr ⟨g, cap, cur, fz, rfl, (h g (by simp [Value.ownBlock])).trans hg, rest⟩
  lt := fun w hφ g hg => by
    rcases hφ with ⟨rfl, _⟩ | ⟨g', cap, cur, fz, rfl, hgg, _⟩
    · simp [Value.ownBlock] at hg
    · simp [Value.ownBlock] at hg
      subst hg
      exact (Array.getElem?_eq_some_iff.1 hgg).1
theorem slz_of {α : Type} [Flat α] {e : Nat} {l : List α} (h : (ownZ e v l).φ w) : Sl (ownZ e v l).D w v l := by
  rcases h with ⟨rfl, rfl⟩ | ⟨g, cap, cur, fz, rfl, hg, hfz, hnc, hcm, hcs, ht⟩
  · exact Sl.nil _ _
  · refine ⟨some ⟨g, 0, none⟩, cap, rfl, hnc, fun _ => ⟨g, 0, rfl⟩, fun i x hx => ⟨rfl, _, rfl, fun j u hu => ?_⟩⟩
    have h1 := flat_get l i x j u hx hu
    rw [← ht, List.getElem?_take] at h1
    split at h1
    · show w.cell? ⟨g, 0 + i * Flat.sz α + j, none⟩ = some u
      rw [Nat.zero_add, cell_of_row w g _ cur e fz hg]
      simpa using h1
    · cases h1
theorem Mem.slz {α : Type} [Flat α] {e : Nat} {l : List α} (hm : Mem w0 T L w) (k : Nat) (hk : L[k]? = some (ownZ e v l)) : Sl (ownZ e v l).D w v l := slz_of (hm.get hk)
theorem enc_bytes : ∀ l : List UInt8, l.flatMap Flat.enc = l.map fun b => Value.int .u8 (b.toNat : Int)
  | [] => rfl
  | b :: l => by rw [List.flatMap_cons, enc_bytes l]; rfl
theorem ef_bytes {e src dst : Nat} {l l' : List UInt8} (hm : Mem w0 T L w) (hs : P.underlying src = some .string) (ht : P.underlying dst = some (.slice e)) (he : P.underlying e = some (.int .u8)) (hx : evo env x = some (.string (bs l))) (hl : byS l = some l') :
    Ef P n env ⟨d, .convert src dst x, ty, pos, af, g⟩ w (fun v w' => Mem w0 T (ownZ e v l' :: L) w') := fun a ha next Q hn => by
  have e1 := ha.eval hx
  unfold byS at hl
  split at hl
  case isFalse => cases hl
  case isTrue hb =>
  have hl' := (os hl).symm
  subst hl'
  have hr := run_bytes_of_string (P := P) w src dst e (bs l) hs ht he
  rw [bs_size] at hr
  have hex : (execOp a.eval ⟨d, .convert src dst x, ty, pos, af, g⟩).run P w = .ok (.value (.slice (some ⟨w.heap.size, 0, none⟩) l.length (grownCap w l.length 0 e))) (w.drew.alloc (.cells (bytesRow (bs l) (grownCap w l.length 0 e)) e ((bytesRow (bs l) (grownCap w l.length 0 e)).size, (bytesRow (bs l) (grownCap w l.length 0 e)).size + 1))) := by
    generalize a.eval = ρ at e1 ⊢
    simp [execOp, e1, hr]
  unfold Oper.wp
  rw [hex]
  have hge := grownCap_ge w l.length 0 e
  have hcm : grownCap w l.length 0 e ≤ maxLen := grownCap_le_maxLen w l.length 0 e (by simp only [maxLen]; omega)
  have hds : (bs l).data.size = l.length := by simp [bs]
  refine hn _ _ (hm.add (c := ownZ e _ l) ⟨rfl, rfl, rfl, by simp, fun q hq _ => heap_alloc_old w.drew _ hq⟩ (.inr ⟨w.heap.size, _, _, _, rfl, heap_alloc_new w.drew _, .inr (Nat.le_refl _), hge, hcm, ?_, ?_⟩) fun q hq => ?_)
  · show (bytesRow (bs l) _).size = _ * 1
    unfold bytesRow
    rw [bs_size, Array.size_append, Array.size_map, Array.size_replicate, hds]; omega
  · show (bytesRow (bs l) _).toList.take (l.length * 1) = _
    unfold bytesRow
    rw [Array.toList_append, Nat.mul_one, enc_bytes]
    have : ((bs l).data.map fun b => Value.int .u8 (b.toNat : Int)).toList = l.map fun b => Value.int .u8 (b.toNat : Int) := by simp [bs]
    rw [this]
    exact List.take_left' (by simp)
  · have : some w.heap.size = some q := hq
    injection this with this
    omega
theorem rd_tostr {e src dst : Nat} {l : List UInt8} {R : Nat → Prop} (hs : P.underlying src = some (.slice e)) (he : P.underlying e = some (.int .u8)) (hd : P.underlying dst = some .string) (hx : evo env x = some v) (h : Sl R w v l) :
    Rd P n env ⟨d, .convert src dst x, ty, pos, af, g⟩ w (.string (bs l)) := rd_mk fun ρ hρ => by
  have e1 := hρ _ _ hx
  have key : (convert src dst v).run P w = .ok (.string (bs l)) w := by
    obtain ⟨A, c, rfl, hc, hA, hel⟩ := id h
    by_cases hne : l = []
    · subst hne
      rw [List.length_nil, run_convert_bytes_string w src dst e A 0 c hs he hd]
      cases A with
      | none => rfl
      | some a =>
        rw [run_bytesToString w a 0 c [] (by simp [loadCells, loadCellsFrom])]
        rfl
    · obtain ⟨b, o, rfl⟩ := hA hne
      refine run_convert_bytes_back w src dst e ⟨b, o, none⟩ c l hs he hd fun j hj => ?_
      refine sl_news h j _ ?_
      rw [enc_bytes, List.getElem?_map, List.getElem?_eq_getElem hj]; rfl
  simp [execOp, e1, key]
end
section
variable {P : Program} {n : Nat} {env : Env} {w : World} {d : Option Nat} {ty : TypeId} {pos : String} {af : Array Edge} {g : Option (Nat × Bool)} {x y : Operand} {t : TypeId}
theorem bs_ext (l : List UInt8) (a b : Nat) : (bs l).extract a b = bs ((l.take b).drop a) := by
  apply ByteArray.ext
  rw [ByteArray.data_extract]
  simp only [bs]
  apply Array.toList_inj.1
  simp [List.drop_take, List.extract_eq_take_drop]
theorem rd_sstH {l l' : List UInt8} {hi : Int} (ht : P.underlying t = some .string) (hx : evo env x = some (.string (bs l))) (hh : evo env y = some (.int .i64 hi)) (hs : slc l 0 hi = some l') :
    Rd P n env ⟨d, .slice t x none (some y) none, ty, pos, af, g⟩ w (.string (bs l')) := rd_mk fun ρ hρ => by
  obtain ⟨h0, h1, h2, rfl⟩ := slc_some hs
  have key := run_slice_string_h (P := P) w t (bs l) ht .i64 hi (by omega) (by rw [bs_size]; omega)
  rw [bs_ext l 0 hi.toNat] at key
  simp [execOp, hρ _ _ hx, hρ _ _ hh, run_sliceAt_string _ t _ _ _ _ ht, key]
end
section
variable {w w0 : World} {T : Nat → Prop} {L : List Chunk} {β : Type} [MV β] {m : List (Int × β)}
/-- A map that lies in the blocks R. -/
def MapAt (R : Nat → Prop) (w : World) (g : Nat) (m : List (Int × β)) : Prop := R g ∧ (mapC g m).φ w
theorem MapAt.of_old {g : Nat} (h : MapAt (Old w0 T) w0 g m) (hm : Mem w0 T L w) : MapAt (Old w0 T) w g m :=
  ⟨h.1, (mapC g m).loc w0 w (fun q hq => by obtain rfl : q = g := hq; exact hm.old q h.1) h.2⟩
theorem MapAt.to_call {g : Nat} (h : MapAt (Old w0 T) w0 g m) (hm : Mem w0 T L w) : MapAt (Old w No) w g m :=
  ⟨⟨Nat.lt_of_lt_of_le h.1.1 hm.chg.size, id⟩, (h.of_old hm).2⟩
theorem MapAt.to_callT {g k : Nat} {c : Chunk} (h : MapAt (Old w0 T) w0 g m) (hm : Mem w0 T L w) (hk : L[k]? = some c) : MapAt (Old w c.D) w g m :=
  ⟨hm.old_old hk g h.1, (h.of_old hm).2⟩
end
/-! maps of lists: the map holds headers; the lists are owned -/
instance : MV Hdr := ⟨fun x => x.1⟩
section
variable {w0 w : World} {T : Nat → Prop} {L : List Chunk} {α : Type} [Flat α] {e : Nat} {zm : List (Int × Hdr)} {ml : List (Int × List α)} {l : List α}
end
end Go.Gv
namespace Go.Gv
open Go.RowKit
/-! a region's rest, under another relation -/
section
variable {P : Program} {n : Nat} {ops : Array Oper} {md : Region.Mode} {S S' : World → Prop} {T T' : Nat → Nat} {Q : Exit → Env → World → Prop} {env : Env} {w : World} {fuel : Nat} {listed : Array Bool}
def reB (m : Nat) (T T' : Nat → Nat) (listed : Array Bool) : Bool := (List.range m).all fun i => listed.getD i false || (!(Nat.beq (T i) 0) && (!(Nat.beq (T i) 2) || Nat.beq (T' i) 2))
theorem wpAnyT_re {Q : Exit → Act → World → Prop} : ∀ (fuel : Nat) (listed : Array Bool) (a : Act) (w : World), (∀ i, i < ops.size → listed.getD i false = false → T i ≠ 0 ∧ (T i = 2 → T' i = 2)) → wpAnyT P md ops Q S' T' fuel listed a w → wpAnyT P md ops Q S T fuel listed a w
  | 0, _, _, _, _, h => h
  | fuel + 1, listed, a, w, U, h => ⟨h.1, fun i hi => wpOp_mono (fun a' w' h' => by
      obtain ⟨hl, o, ho, _⟩ := mem_ready.1 hi
      have hlt : i < ops.size := (Array.getElem?_eq_some_iff.1 ho).1
      have hl2 : listed.getD i false = false := by
        by_cases hs : i < listed.size
        · simp [Array.getD, hs] at hl ⊢; exact hl
        · simp [Array.getD, hs]
      have hu := U i hlt hl2
      refine ⟨⟨fun h0 => absurd h0 hu.1, fun h2 => h'.1.2 (hu.2 h2)⟩, wpAnyT_re fuel _ a' w' (fun j hj hjl => U j hj ?_) h'.2⟩
      by_cases e : listed.getD j false = false
      · exact e
      · have : listed.getD j false = true := by simpa using e
        rw [getD_set_true this] at hjl; cases hjl) (h.2 i hi)⟩
theorem s_re (hb : reB ops.size T T' listed = true) (K : RWs P n ops Q S' T' fuel listed env w) : RWs P n ops Q S T fuel listed env w := fun a ha =>
  wpAnyT_re fuel listed a w (fun i hi hl => by
    have := List.all_eq_true.1 hb i (List.mem_range.2 hi)
    rw [hl, Bool.false_or, Bool.and_eq_true, Bool.or_eq_true] at this
    refine ⟨fun h0 => ?_, fun h2 => ?_⟩
    · rw [h0] at this; simp at this
    · rcases this.2 with h | h
      · rw [h2] at h; simp at h
      · exact Nat.eq_of_beq_eq_true h) (K a ha)
end
/-! a box of several cells -/
section
variable {w0 w : World} {T : Nat → Prop} {L : List Chunk}
def BoxL (R : Nat → Prop) (w : World) (g : Nat) (vs : List Value) : Prop := R g ∧ CellsAt w g 0 vs
theorem BoxL.of_old {g : Nat} {v : List Value} (h : BoxL (Old w0 T) w0 g v) (hm : Mem w0 T L w) : BoxL (Old w0 T) w g v := ⟨h.1, h.2.mono (hm.old g h.1)⟩
theorem BoxL.to_call {g : Nat} {v : List Value} (h : BoxL (Old w0 T) w0 g v) (hm : Mem w0 T L w) : BoxL (Old w No) w g v := ⟨⟨Nat.lt_of_lt_of_le h.1.1 hm.chg.size, id⟩, h.2.mono (hm.old g h.1)⟩
theorem BoxL.to_callT {g k : Nat} {v : List Value} {c : Chunk} (h : BoxL (Old w0 T) w0 g v) (hm : Mem w0 T L w) (hk : L[k]? = some c) : BoxL (Old w c.D) w g v := ⟨hm.old_old hk g h.1, h.2.mono (hm.old g h.1)⟩
theorem Mem.boxL_callT {g t : Nat} {v : List Value} {c : Chunk} (hm : Mem w0 T L w) (k j : Nat) (hk : L[k]? = some (Gv.blk g t v)) (hj : L[j]? = some c) (hne : k ≠ j) : BoxL (Old w c.D) w g v :=
  ⟨⟨(Gv.blk g t v).lt w (hm.get hk) g rfl, pairwise_at disj_symm hm.disj hk hj hne g rfl⟩, hm.blk k hk⟩
/-- From a world to one that has the same blocks of R. -/
theorem BoxL.toW {R R' : Nat → Prop} {w W : World} {g : Nat} {v : List Value} (h : BoxL R w g v) (hW : ∀ k, R k → R' k ∧ W.heap[k]? = w.heap[k]?) : BoxL R' W g v := ⟨(hW g h.1).1, h.2.mono (hW g h.1).2⟩
end
end Go.Gv
namespace Go.Gv
open Go.RowKit
/-! a part of a block, as a struct -/
section
variable {P : Program} {n : Nat} {env : Env} {w : World} {d : Option Tmp} {t ty : TypeId} {x : Operand} {pos : String} {af : Array Edge} {g : Option (Nat × Bool)}
theorem rd_andI {a b : Int} {y : Operand} {t' : TypeId} (hx : evo env x = some (.int .i64 a)) (hy : evo env y = some (.int .i64 b)) : Rd P n env ⟨d, .binOp .and t x y t', ty, pos, af, g⟩ w (.int .i64 (andI a b)) :=
  rd_bin hx hy guard_int (by simp only [binOp, Op.intBits, wr64_eq, andI, IntKind.bits]; rfl)
theorem rd_ldp {b o sz off : Nat} {cs cs' : List Value} (ht : TAgg P t sz) (hx : evo env x = some (.pointer (some ⟨b, o + off, none⟩))) (hc : CellsAt w b o cs) (he : (cs.drop off).take sz = cs') (hl : cs'.length = sz) : Rd P n env ⟨d, .load t x, ty, pos, af, g⟩ w (.agg cs'.toArray) :=
  rd_ld ht hx (o := o + off) (cs := cs') (fun j u hu => by
    subst he
    have h1 : ((cs.drop off).take sz)[j]? = some u := hu
    have h2 : cs[off + j]? = some u := by
      rw [List.getElem?_take] at h1
      split at h1
      · rw [List.getElem?_drop] at h1; exact h1
      · cases h1
    rw [Nat.add_assoc]
    exact hc (off + j) u h2) hl
end
/-! a list against nil -/
section
variable {P : Program} {w : World} {t : TypeId}
theorem rd_nilS {α : Type} [Rep α] {R : Nat → Prop} {v : Value} {l : List α} {e sz : Nat} (hT : TSlice P t e sz) (h : Sl R w v l) :
    ∃ b : Bool, (∀ {n : Nat} {env : Env} {d : Option Tmp} {x : Operand} {t' ty : TypeId} {pos : String} {af : Array Edge} {g : Option (Nat × Bool)}, evo env x = some v → Rd P n env ⟨d, .binOp .eql t x (.const (.slice none 0 0)) t', ty, pos, af, g⟩ w (.bool b)) ∧ (b = true → l = []) := by
  obtain ⟨A, c, rfl, _, hA, _⟩ := h
  refine ⟨A.isNone, fun hx => rd_bin hx rfl ?_ (Lib.run_eql_slice_nil w t e A _ c 0 0 hT.1), fun hb => ?_⟩
  · unfold eqGuard; simp [go_sem]
  · by_cases hl : l = []
    · exact hl
    · obtain ⟨b, o, rfl⟩ := hA hl
      cases hb
theorem app_nn {α : Type} {b : Nat} {res : List α} (h : app b ([] : List α) [] = some res) : res = [] := by
  unfold app at h
  split at h
  · injection h with h; rw [← h]; rfl
  · cases h
end
/-! bytes of strings -/
section
variable {P : Program} {n : Nat} {env : Env} {w : World} {d : Option Nat} {ty : TypeId} {pos : String} {af : Array Edge} {g : Option (Nat × Bool)} {x y : Operand} {t t' : TypeId}
theorem rd_sidx {l : List UInt8} {j : Int} {r : UInt8} {kj : IntKind} (ht : P.underlying t = some .string) (hx : evo env x = some (.string (bs l))) (hy : evo env y = some (.int kj j)) (hj : idx l j = some r) :
    Rd P n env ⟨d, .index t x y, ty, pos, af, g⟩ w (.int .u8 (r.toNat : Int)) := rd_mk fun ρ hρ => by
  obtain ⟨h0, h1, h2⟩ := idx_some hj
  have hlt : j.toNat < l.length := by omega
  have e : (bs l)[j.toNat]? = some r := by
    rw [getElem?_pos (bs l) j.toNat (by rw [bs_size]; exact hlt)]
    have : (bs l)[j.toNat]'(by rw [bs_size]; exact hlt) = l[j.toNat] := rfl
    rw [this]
    rw [List.getElem?_eq_getElem hlt] at h2
    exact h2
  simp [execOp, hρ _ _ hx, hρ _ _ hy, Instr.index, asIntOf, run_underlying ht, h0, e]
theorem rd_sub_u8 {a b : Int} (hx : evo env x = some (.int .u8 a)) (hy : evo env y = some (.int .u8 b)) : Rd P n env ⟨d, .binOp .sub t x y t', ty, pos, af, g⟩ w (.int .u8 ((a - b) % 256)) := by
  have := rd_sub (P := P) (n := n) (w := w) (d := d) (ty := ty) (pos := pos) (af := af) (g := g) (t := t) (t' := t') hx hy
  rwa [IntKind.wrap_u8] at this
end
instance : Flat Str where
  sz := 1
  bytes := 16
  enc := fun x => [.string (bs x.s)]
  pos := by decide
  len := fun _ => rfl
  one := fun _ u hu => by simp at hu; subst hu; rfl
section
variable {P : Program} {n : Nat} {env : Env} {w w0 : World} {T : Nat → Prop} {L : List Chunk} {d : Option Nat} {ty : TypeId} {pos : String} {af : Array Edge} {g : Option (Nat × Bool)} {x y : Operand} {v u : Value} {t : TypeId}
theorem own_setZ {α : Type} [Flat α] {e : Nat} {l : List α} {i off : Nat} {xe x' : α} (hφ : (ownZ e v l).φ w) (hi : l[i]? = some xe) (ho : off < Flat.sz α) (he : (Flat.enc xe).set off u = Flat.enc x') :
    (ownZ e v (l.set i x')).φ (w.setCell ⟨pB v, pO v + i * Flat.sz α + off, none⟩ u) ∧ w.frozen? ⟨pB v, pO v + i * Flat.sz α + off, none⟩ = false ∧ v.ownBlock = some (pB v) := by
  rcases hφ with ⟨hv, hn⟩ | ⟨g, cap, cur, fz, hv, hg, hfz, hnc, hcm, hcs, htake⟩
  · subst hn
    simp at hi
  · have e1 : pB v = g := by rw [hv]; rfl
    have e2 : pO v = 0 := by rw [hv]; rfl
    rw [e1, e2, Nat.zero_add]
    have hil : i < l.length := (List.getElem?_eq_some_iff.1 hi).1
    have hlt : i * Flat.sz α + off < l.length * Flat.sz α := by
      have : (i + 1) * Flat.sz α ≤ l.length * Flat.sz α := Nat.mul_le_mul_right _ hil
      rw [Nat.add_mul] at this; omega
    have hcl : l.length * Flat.sz α ≤ cap * Flat.sz α := Nat.mul_le_mul_right _ hnc
    refine ⟨.inr ⟨g, cap, cur.setIfInBounds (i * Flat.sz α + off) u, fz, by rw [List.length_set]; exact hv, ?_, by simpa using hfz, by simpa using hnc, hcm, by simpa using hcs, ?_⟩, ?_, by rw [hv]; rfl⟩
    · simp [World.setCell, Array.getElem?_modify, hg]
    · rw [List.length_set, Array.toList_setIfInBounds, ← flat_set l i xe x' off u hi ho he, ← htake]
      apply List.ext_getElem?
      intro q
      simp only [List.getElem?_take, List.getElem?_set, List.length_take]
      by_cases hq : q < l.length * Flat.sz α
      · simp only [hq, if_true]
        by_cases hq2 : i * Flat.sz α + off = q
        · have h1 : q < cur.toList.length := by
            rw [Array.length_toList, hcs]; omega
          have h2 : q < min (l.length * Flat.sz α) cur.toList.length := by omega
          rw [if_pos hq2, if_pos hq2, if_pos (by omega), if_pos (by omega)]
        · rw [if_neg hq2, if_neg hq2]
      · simp only [hq, if_false]
        split
        · omega
        · rfl
    · obtain ⟨lo, hi'⟩ := fz
      simp only [World.frozen?, hg, Bool.and_eq_false_iff, decide_eq_false_iff_not]
      simp only at hfz
      omega
theorem ef_stlZ {α : Type} [Flat α] {e k off : Nat} {j : Int} {l : List α} {xe x' : α} (hm : Mem w0 T L w) (ht : TOne P t) (hx : evo env x = some (.pointer (some ⟨pB v, pO v + j.toNat * Rep.sz α + off, none⟩))) (hy : evo env y = some u) (h1 : u.oneCell' = true)
    (hk : L[k]? = some (ownZ e v l)) (hi : idx l j = some xe) (he : (Flat.enc xe).set off u = Flat.enc x') (ho : Nat.blt off (Flat.sz α) = true) :
    Ef P n env ⟨d, .store t x y, ty, pos, af, g⟩ w (fun _ w' => Mem w0 T (L.set k (ownZ e v (l.set j.toNat x'))) w') := fun a ha next Q hn => by
  obtain ⟨h0, h2, h3⟩ := idx_some hi
  have ho' : off < Flat.sz α := Nat.le_of_ble_eq_true ho
  have hφ := hm.get hk
  obtain ⟨hnew, hfz, hob⟩ := own_setZ (u := u) hφ h3 ho' he
  have hold : (Flat.enc xe)[off]? = some ((Flat.enc xe)[off]'(by rw [Flat.len]; exact ho')) := List.getElem?_eq_getElem _
  have hc := (slz_of hφ).cells hi off _ hold
  unfold Oper.wp
  rw [run_st1 ht (ha.eval hx) (ha.eval hy) h1 hc hfz]
  exact hn undef _ (hm.upd hk ((chg_setCell ⟨pB v, pO v + j.toNat * Flat.sz α + off, none⟩ u).mono fun g hg => by
    show v.ownBlock = some g
    rw [hob]; exact congrArg some hg.symm) hnew (fun g hg => .inl hg))
end
section
variable {P : Program} {n : Nat} {env : Env} {w : World} {d : Option Nat} {ty : TypeId} {pos : String} {af : Array Edge} {g : Option (Nat × Bool)} {x y : Operand} {t t' : TypeId}
theorem rd_sub_u8x {a b : Int} (hx : evo env x = some (.int .u8 a)) (hy : evo env y = some (.int .u8 b)) : Rd P n env ⟨d, .binOp .sub t x y t', ty, pos, af, g⟩ w (.int .u8 ((toU8 (a - b)).toNat : Int)) := by
  rw [toU8_toNat]; exact rd_sub_u8 hx hy
theorem rd_or8 {a b : UInt8} (hx : evo env x = some (.int .u8 (a.toNat : Int))) (hy : evo env y = some (.int .u8 (b.toNat : Int))) : Rd P n env ⟨d, .binOp .or t x y t', ty, pos, af, g⟩ w (.int .u8 ((a ||| b).toNat : Int)) := by
  have ha := a.toNat_lt
  have hb := b.toNat_lt
  have := rd_bits (P := P) (n := n) (env := env) (w := w) (d := d) (ty := ty) (pos := pos) (af := af) (g := g) (t := t) (t' := t') (m := 8) (k := .u8) (f := (· ||| ·)) op_or (fun z h0 h1 => by rw [IntKind.wrap_u8]; omega) (by decide)
    (show bitN (· ||| ·) 8 (a.toNat : Int) (b.toNat : Int) = some _ from if_pos ⟨⟨by omega, by omega⟩, by omega, by omega⟩) hx hy
  rw [UInt8.toNat_or]
  simpa using this
end
theorem Mem.tail {w0 w : World} {T : Nat → Prop} {L : List Chunk} {c : Chunk} (hm : Mem w0 T (c :: L) w) : Mem w0 T L w := ⟨hm.chg, fun x hx => hm.own x (List.mem_cons_of_mem _ hx), fun x hx => hm.dom x (List.mem_cons_of_mem _ hx), (List.pairwise_cons.1 hm.disj).2⟩
/-! maps from strings -/
def mapS {β : Type} [MV β] (b : Nat) (m : List (List UInt8 × β)) : Chunk where
  D := fun k => k = b
  φ := fun w => ∃ es clock, w.heap[b]? = some (.map es clock) ∧ es.toList.map (fun e => (e.key, e.val)) = m.map (fun p => (Value.string (bs p.1), MV.val p.2))
  loc := fun w w' h hφ => by
    obtain ⟨es, cl, h1, h2⟩ := hφ
    exact ⟨es, cl, (h b rfl).trans h1, h2⟩
  lt := fun w hφ k hk => by
    obtain ⟨es, cl, h1, h2⟩ := hφ
    subst hk
    exact (Array.getElem?_eq_some_iff.1 h1).1

theorem bs_beq (a b : List UInt8) : (bs a == bs b) = decide (a = b) := by
  have h : (bs a == bs b) = (a.toArray == b.toArray) := rfl
  rw [h, Bool.eq_iff_iff]
  simp
theorem find_s {β : Type} [MV β] (k : List UInt8) : ∀ (l : List MapEntry) (m : List (List UInt8 × β)) (i : Nat), l.map (fun e => (e.key, e.val)) = m.map (fun p => (Value.string (bs p.1), MV.val p.2)) →
    (sget m k = none ∧ Instr.findNow .string (.string (bs k)) l i = some none ∧ ∀ v, sset m k v = m ++ [(k, v)]) ∨
    ∃ j x e, sget m k = some x ∧ Instr.findNow .string (.string (bs k)) l i = some (some (i + j, MV.val x)) ∧ l[j]? = some e ∧ e.key = (.string (bs k)) ∧ ∀ v, sset m k v = m.set j (k, v)
  | [], m, i, h => by
    have : m = [] := by cases m <;> simp_all
    subst this
    exact .inl ⟨rfl, rfl, fun _ => rfl⟩
  | e :: l, [], i, h => by simp at h
  | e :: l, p :: m, i, h => by
    simp only [List.map_cons, List.cons.injEq, Prod.mk.injEq] at h
    obtain ⟨⟨hk, hv⟩, ht⟩ := h
    by_cases hp : p.1 = k
    · refine .inr ⟨0, p.2, e, by simp [sget, hp], ?_, rfl, by rw [hk, hp], fun v => by simp [sset, hp]⟩
      simp [Instr.findNow, hk, Instr.sameNow, hp, hv, bs_beq]
    · have hne : ¬ k = p.1 := fun h => hp h.symm
      have hstep : Instr.findNow .string (.string (bs k)) (e :: l) i = Instr.findNow .string (.string (bs k)) l (i + 1) := by
        have hb : (bs k == bs p.1) = false := by rw [bs_beq]; exact decide_eq_false hne
        simp [Instr.findNow, hk, Instr.sameNow, hb]
      rcases find_s k l m (i + 1) ht with ⟨h1, h2, h3⟩ | ⟨j, x, e', h1, h2, h3, h4, h5⟩
      · exact .inl ⟨by simp [sget, hp, h1], by rw [hstep, h2], fun v => by simp [sset, hp, h3]⟩
      · exact .inr ⟨j + 1, x, e', by simp [sget, hp, h1], by rw [hstep, h2]; simp; omega, by simpa using h3, h4, fun v => by simp [sset, hp, h5]⟩

section
variable {P : Program} {n : Nat} {env : Env} {w w0 : World} {T : Nat → Prop} {L : List Chunk} {d : Option Nat} {ty : TypeId} {pos : String} {af : Array Edge} {g : Option (Nat × Bool)} {x y z : Operand} {v u : Value} {t : TypeId} {β : Type} [MV β] {b kt et : Nat} {m : List (List UInt8 × β)} {k : List UInt8}

def TMapS (P : Program) (t kt et : Nat) (zv : Value) : Prop := P.underlying t = some (.map kt et) ∧ P.underlying kt = some .string ∧ (P.info? et).map (·.zero) = some (some zv)

theorem ef_makeMapS (hm : Mem w0 T L w) (β : Type) [MV β] : Ef P n env ⟨d, .makeMap t none, ty, pos, af, g⟩ w (fun v w' => ∃ b, v = .map (some b) ∧ Mem w0 T (mapS b ([] : List (List UInt8 × β)) :: L) w') := fun a ha next Q hn => by
  have hr : (execOp a.eval ⟨d, .makeMap t none, ty, pos, af, g⟩).run P w = .ok (.value (.map (some w.heap.size))) (w.alloc (.map #[] 0)) := by
    simp [execOp, Instr.makeMap]
  unfold Oper.wp
  rw [hr]
  refine hn _ _ ⟨_, rfl, hm.add (Chg.alloc _ _ _) ⟨#[], 0, heap_alloc_new w _, rfl⟩ fun g hg => ?_⟩
  have : g = w.heap.size := hg
  omega

theorem run_lookupS {zv : Value} (ht : TMapS P t kt et zv) (hφ : (mapS b m).φ w) (ok : Bool) : (Instr.lookup t (.map (some b)) (.string (bs k)) ok).run P w = .ok (if ok then .tuple #[((sget m k).map MV.val).getD zv, .bool (sget m k).isSome] else ((sget m k).map MV.val).getD zv) w := by
  obtain ⟨hu, hk, hz⟩ := ht
  obtain ⟨es, cl, hb, hes⟩ := hφ
  obtain ⟨i, hi, hzi⟩ := map_some hz
  have hck : (Instr.checkKey es.isEmpty 10000 kt (.string (bs k))).run P w = .ok () w := by
    show (Instr.checkKey es.isEmpty (9999 + 1) kt (.string (bs k))).run P w = .ok () w
    unfold Instr.checkKey
    simp [run_underlying hk]
  rcases find_s k es.toList m 0 hes with ⟨h1, h2, _⟩ | ⟨j, x, e, h1, h2, _⟩
  · have hf : (Instr.findKey kt (.string (bs k)) es.toList).run P w = .ok none w := by simp [Instr.findKey, run_underlying hk, h2]
    simp [Instr.lookup, run_underlying hu, getObj, Sem.run, hb, hck, hf, zeroValue, typeInfo, hi, hzi, h1]
  · have hf : (Instr.findKey kt (.string (bs k)) es.toList).run P w = .ok (some (0 + j, MV.val x)) w := by simp [Instr.findKey, run_underlying hk, h2]
    simp [Instr.lookup, run_underlying hu, getObj, Sem.run, hb, hck, hf, h1]
theorem rd_lookupS {zv : Value} (ht : TMapS P t kt et zv) (hφ : (mapS b m).φ w) (hx : evo env x = some (.map (some b))) (hy : evo env y = some (.string (bs k))) :
    Rd P n env ⟨d, .lookup t x y false, ty, pos, af, g⟩ w (((sget m k).map MV.val).getD zv) := rd_mk fun ρ hρ => by
  have h := run_lookupS (P := P) (k := k) ht hφ false
  simp only [Bool.false_eq_true, if_false] at h
  simp only [execOp, hρ _ _ hx, hρ _ _ hy, Sem.run_bind, h, Result.andThen_ok, Sem.run_pure]
theorem run_mapUpdateS {zv : Value} (ht : TMapS P t kt et zv) (hφ : (mapS b m).φ w) (vx : β) : ∃ es' cl', (Instr.mapUpdate t (.map (some b)) (.string (bs k)) (MV.val vx)).run P w = .ok () { w with heap := w.heap.setIfInBounds b (.map es' cl') } ∧ es'.toList.map (fun e => (e.key, e.val)) = (sset m k vx).map (fun p => (Value.string (bs p.1), MV.val p.2)) := by
  obtain ⟨hu, hk, hz⟩ := ht
  obtain ⟨es, cl, hb, hes⟩ := hφ
  have hck : (Instr.checkKey false 10000 kt (.string (bs k))).run P w = .ok () w := by
    show (Instr.checkKey false (9999 + 1) kt (.string (bs k))).run P w = .ok () w
    unfold Instr.checkKey
    simp [run_underlying hk]
  rcases find_s k es.toList m 0 hes with ⟨h1, h2, h3⟩ | ⟨j, x, e, h1, h2, h3, h4, h5⟩
  · have hf : (Instr.findKey kt (.string (bs k)) es.toList).run P w = .ok none w := by simp [Instr.findKey, run_underlying hk, h2]
    refine ⟨es.push { key := (.string (bs k)), val := MV.val vx, born := cl }, cl + 1, ?_, ?_⟩
    · simp [Instr.mapUpdate, run_underlying hu, getObj, setObj, Sem.run, hb, hck, hf]
    · rw [h3]; simp [hes]
  · have hf : (Instr.findKey kt (.string (bs k)) es.toList).run P w = .ok (some (0 + j, MV.val x)) w := by simp [Instr.findKey, run_underlying hk, h2]
    have h3' : es[j]? = some e := by simpa using h3
    refine ⟨es.modify j fun e => { e with key := (.string (bs k)), val := MV.val vx }, cl, ?_, ?_⟩
    · simp [Instr.mapUpdate, run_underlying hu, getObj, setObj, Sem.run, hb, hck, hf, h3', h4, Instr.keyThatStays, Instr.sameBits, bs_beq]
    · rw [h5, List.map_set, ← hes]
      apply List.ext_getElem?
      intro q
      simp only [List.getElem?_map, Array.toList_modify, List.getElem?_modify, List.getElem?_set, List.length_map, Array.length_toList]
      by_cases hq : j = q
      · subst hq
        have hlt : j < es.size := (Array.getElem?_eq_some_iff.1 h3').1
        simp [hlt]
      · simp [hq]

theorem ef_mapUpdateS {zv : Value} {kq : Nat} (hm : Mem w0 T L w) (ht : TMapS P t kt et zv) (hk : L[kq]? = some (mapS b m)) (vx : β) (hz : evo env z = some (.map (some b))) (hx : evo env x = some (.string (bs k))) (hy : evo env y = some (MV.val vx)) :
    Ef P n env ⟨d, .mapUpdate t z x y, ty, pos, af, g⟩ w (fun _ w' => Mem w0 T (L.set kq (mapS b (sset m k vx))) w') := fun a ha next Q hn => by
  obtain ⟨es', cl', hr, hes⟩ := run_mapUpdateS (k := k) ht (hm.get hk) vx
  have e1 := ha.eval hz
  have e2 := ha.eval hx
  have e3 := ha.eval hy
  have hex : (execOp a.eval ⟨d, .mapUpdate t z x y, ty, pos, af, g⟩).run P w = .ok .skip { w with heap := w.heap.setIfInBounds b (.map es' cl') } := by
    generalize a.eval = ρ at e1 e2 e3 ⊢
    simp only [execOp, e1, e2, e3, Sem.run_bind, hr, Result.andThen_ok, Sem.run_pure]
  unfold Oper.wp
  rw [hex]
  have hlt : b < w.heap.size := (mapS b m).lt w (hm.get hk) b rfl
  refine hn undef _ (hm.upd hk ⟨rfl, rfl, rfl, by simp, fun q hq hne => ?_⟩ ⟨es', cl', by simp [hlt], hes⟩ fun q hq => .inl hq)
  have : ¬ b = q := fun e => hne e.symm
  simp [this]

end
/-! the bytes of a string at the end of a list -/
section
open Go.Lib
theorem app_ne {α : Type} {b : Nat} {l lx l' : List α} (h : app b l lx = some l') (hne : lx ≠ []) : l' ≠ [] := by
  unfold app at h
  split at h
  · have := os h
    subst this
    exact fun e => hne (List.append_eq_nil_iff.1 e).2
  · cases h
section
variable {P : Program} {n : Nat} {env : Env} {w w0 : World} {T : Nat → Prop} {L : List Chunk} {d : Option Nat} {ty : TypeId} {pos : String} {af : Array Edge} {g : Option (Nat × Bool)} {x y : Operand} {v : Value} {t tu : TypeId}
theorem str_bs (l : List UInt8) : strCells (bs l) = l.flatMap Flat.enc := by
  rw [enc_bytes]; unfold strCells bs; simp
theorem ef_appendS {e k : Nat} {l lx l' : List UInt8} (hm : Mem w0 T L w) (ht : TSlice P t e (Flat.sz UInt8)) (hu : P.underlying tu = some .string) (he : TElem P e (Flat.sz UInt8) 1 (.int .u8 0)) (hk : L[k]? = some (ownL e v l))
    (hx : evo env x = some v) (hy : evo env y = some (.string (bs lx))) (hl : app 1 l lx = some l') (hne : l ≠ []) :
    Ef P n env ⟨d, .call { callee := .builtin .append, args := #[x, y], argTypes := #[t, tu] }, ty, pos, af, g⟩ w (fun v' w' => Mem w0 T (L.set k (ownL e v' l')) w') := fun a ha next Q hn => by
  obtain ⟨i, hi, hsz, hby, hzz⟩ := he.ex
  have e1 := ha.eval hx
  have e2 := ha.eval hy
  have hs1 : i.size = 1 := hsz
  have hex : ∀ v' w', (Builtin.append_ #[t, tu] ty #[v, .string (bs lx)]).run P w = .ok v' w' →
      (execOp a.eval ⟨d, .call { callee := .builtin .append, args := #[x, y], argTypes := #[t, tu] }, ty, pos, af, g⟩).run P w = .ok (.value v') w' := fun v' w' hr => by
    generalize a.eval = ρ at e1 e2 ⊢
    simp [execOp, resolve, invoke, builtin, e1, e2, hr]
  unfold app at hl
  split at hl
  case isFalse => cases hl
  case isTrue hb =>
    have hl' := os hl
    subst hl'
    have hown : w.ownsRow 0 e (Flat.sz UInt8) v l.length (l.flatMap Flat.enc) := hm.get hk
    have hlen : (l.flatMap (Flat.enc (α := UInt8))).length = l.length := by rw [enc_bytes, List.length_map]
    rcases hown.2 with ⟨_, hn'⟩ | ⟨b0, cap, cur, rfl, _, hg, hnc, hcm, hcs, htk⟩
    · exact absurd (List.eq_nil_of_length_eq_zero hn') hne
    · have hcs' : cur.size = cap := by rw [hcs]; exact Nat.mul_one _
      have htk' : cur.toList.take l.length = l.flatMap Flat.enc := by rw [← htk]; congr 1; exact (Nat.mul_one _).symm
      unfold Oper.wp
      by_cases hroom : l.length + lx.length ≤ cap
      · have hr := run_append_room_string (P := P) w t tu ty e i ht.1 hu hi hs1 b0 l.length cap cur hg (bs lx) (by rw [bs_size]; exact hroom) (by rw [bs_size]; omega)
        rw [bs_size, str_bs] at hr
        rw [hex _ _ hr]
        refine hn _ _ (hm.upd hk ⟨rfl, rfl, rfl, by simp, fun q hq hne => setRow_other w b0 q _ (fun e => hne (by subst e; rfl))⟩ ⟨flat_len _, .inr ⟨b0, cap, _, by rw [List.length_append], Nat.zero_le _, setRow_heap w b0 cur _ e _ hg, by rw [List.length_append]; exact hroom, hcm, ?_, ?_⟩⟩ fun q hq => .inl hq)
        · rw [htk', ← hcs]
          have h2 : (lx.flatMap (Flat.enc (α := UInt8))).length = lx.length := by rw [enc_bytes, List.length_map]
          simp only [List.size_toArray, List.length_append, List.length_drop, Array.length_toList, hlen, h2]; omega
        · rw [htk', List.flatMap_append, ← flat_len (l ++ lx), List.flatMap_append]
          exact List.take_left
      · have hr := run_append_grow_string (P := P) w t tu ty e i (.int .u8 0) ht.1 hu hi hzz ⟨b0, 0, none⟩ l.length cap (l.flatMap Flat.enc) (by rw [hlen, hs1, Nat.mul_one]) (by
            intro j u hu
            exact sl_news (sl_of_own hown) j u hu) (bs lx) (by rw [bs_size]; omega) (by rw [bs_size]; omega) (by rw [bs_size]; exact growslice_fits (by omega) (by rw [hby]; exact hb.1))
        rw [bs_size, str_bs] at hr
        rw [hex _ _ hr]
        have hge := grownCap_ge w (l.length + lx.length) cap e
        have hcm2 : grownCap w (l.length + lx.length) cap e ≤ maxLen := grownCap_le_maxLen w (l.length + lx.length) cap e (by simp only [maxLen]; omega)
        refine hn _ _ (hm.upd hk ⟨rfl, rfl, rfl, by simp, fun q hq _ => heap_alloc_old w.drew _ hq⟩ ⟨flat_len _, .inr ⟨w.heap.size, _, _, by rw [List.length_append], Nat.zero_le _, heap_alloc_new w.drew _, by rw [List.length_append]; exact hge, hcm2, ?_, ?_⟩⟩ fun q hq => .inr ?_)
        · have h2 : (lx.flatMap (Flat.enc (α := UInt8))).length = lx.length := by rw [enc_bytes, List.length_map]
          have h3 : (Value.int .u8 0).cells.size = 1 := rfl
          simp only [Array.size_append, List.size_toArray, size_zeroCells, hlen, h2, h3]
          show _ = _ * 1
          omega
        · simp only [Array.toList_append]
          rw [List.flatMap_append]
          exact List.take_left' (by rw [List.length_append, hlen, List.length_append]; show _ = _ * 1; rw [enc_bytes, List.length_map]; omega)
        · have : some w.heap.size = some q := hq
          injection this with this
          omega
end
end
/-! short forms of pairs of steps -/
section
variable {P : Program} {n : Nat} {ops : Array Oper} {Q : Exit → Env → World → Prop} {N : Env → World → Prop} {env : Env} {w : World} {x : Operand} {v : Value} {y : Code} {d : Nat} {ty : TypeId} {pos : String} {af : Array Edge} {rest : List Oper}
theorem t_mv (hd : Nat.blt d n = true) (hx : evo env x = some v) (K : RWt P n ops Q rest ((d, v) :: env) w) : RWt P n ops Q (⟨some d, .move x, ty, pos, af, none⟩ :: rest) env w := t_rd hd (rd_move hx) K
theorem t_as (hd : Nat.blt d n = true) (hx : evo env x = some v) (K : RWt P n ops Q rest ((d, v) :: env) w) : RWt P n ops Q (⟨some d, .assign x, ty, pos, af, none⟩ :: rest) env w := t_rd hd (rd_assign hx) K
theorem rwt_n (h : N env w) : RWt P n ops (thenQ N Q) [] env w := rwt_nil (qn_then h)
theorem cw_sr {id : Nat} {l : List Oper} (h : RWt P n l.toArray (thenQ (CW P n y Q) Q) l env w) : CW P n ((Code.region id l.toArray false).seq y) Q env w := cw_seq (cw_region h)
end
end Go.Gv
