/- Plain words: loops as iterated steps, checked integer operations, indexing. They name nothing of the program. -/
namespace Go.Gv

/-- A loop in a functional form. -/
def iterN {σ ρ : Type} (f : σ → Option (σ ⊕ ρ)) : Nat → σ → Option ρ
  | 0, _ => none
  | n + 1, s => match f s with
    | none => none
    | some (.inl s') => iterN f n s'
    | some (.inr r) => some r

/-- Indexing. -/
def idx {α : Type} (l : List α) (i : Int) : Option α := if 0 ≤ i then l[i.toNat]? else none
theorem idx_some {α : Type} {l : List α} {i : Int} {x : α} (h : idx l i = some x) : 0 ≤ i ∧ i < l.length ∧ l[i.toNat]? = some x := by
  unfold idx at h
  split at h
  · rename_i h0
    have hl := (List.getElem?_eq_some_iff.1 h).1
    exact ⟨h0, by omega, h⟩
  · cases h

/-- A part of a list. -/
def slc {α : Type} (l : List α) (lo hi : Int) : Option (List α) := if 0 ≤ lo ∧ lo ≤ hi ∧ hi ≤ l.length then some ((l.take hi.toNat).drop lo.toNat) else none
/-- Appending, where memory bears it: elements of 'bytes' bytes. -/
def app {α : Type} (bytes : Nat) (l r : List α) : Option (List α) := if (l.length + r.length) * bytes ≤ 140737488355328 ∧ l.length + r.length ≤ 9223372036854775807 then some (l ++ r) else none
/-- A new list of n elements. -/
def mkL {α : Type} (bytes : Nat) (n : Int) (z : α) : Option (List α) := if 0 ≤ n ∧ (bytes : Int) * n ≤ 281474976710656 ∧ n ≤ 9223372036854775807 then some (List.replicate n.toNat z) else none

/-- m is asked where g is true alone. -/
def gO {α : Type} [Inhabited α] (g : Bool) (m : Option α) : Option α := bif g then m else some default
theorem gO_t {α : Type} [Inhabited α] {g : Bool} {m : Option α} {x : α} (h : gO g m = some x) (hg : g = true) : m = some x := by subst hg; exact h
def in64 (x : Int) : Option Int := if -9223372036854775808 ≤ x ∧ x ≤ 9223372036854775807 then some x else none
def quo64 (a b : Int) : Option Int := if b = 0 then none else in64 (a.tdiv b)
def rem64 (a b : Int) : Option Int := if b = 0 then none else some (a.tmod b)
def wr64 (x : Int) : Int := (x + 9223372036854775808) % 18446744073709551616 - 9223372036854775808

/-! Option's bind, step by step -/
theorem ob {α β : Type} {m : Option α} {f : α → Option β} {r : β} (h : Option.bind m f = some r) : ∃ x, m = some x ∧ f x = some r := by
  cases m with
  | none => cases h
  | some x => exact ⟨x, rfl, h⟩
theorem oi {α : Type} {b : Bool} {x y : Option α} {r : α} (h : (bif b then x else y) = some r) : (b = true ∧ x = some r) ∨ (b = false ∧ y = some r) := by
  cases b
  · exact .inr ⟨rfl, h⟩
  · exact .inl ⟨rfl, h⟩
theorem os {α : Type} {x r : α} (h : some x = some r) : r = x := (Option.some.inj h).symm

theorem bcontra {a : Bool} {p : Prop} (h : a = false) (k : a = true) : p := by rw [h] at k; cases k
theorem bandl {a b : Bool} (h : (a && b) = true) : a = true := by cases a <;> simp_all
theorem bandr {a b : Bool} (h : (a && b) = true) : b = true := by cases a <;> simp_all
theorem band {a b : Bool} (ha : a = true) (hb : b = true) : (a && b) = true := by subst ha; subst hb; rfl
theorem bandF {a b : Bool} (ha : a = false) : (a && b) = false := by subst ha; rfl
theorem bandF2 {a b : Bool} (hb : b = false) : (a && b) = false := by subst hb; cases a <;> rfl
theorem borF {a b : Bool} (ha : a = false) (hb : b = false) : (a || b) = false := by subst ha; subst hb; rfl
theorem borT {a b : Bool} (ha : a = true) : (a || b) = true := by subst ha; rfl
theorem borT2 {a b : Bool} (hb : b = true) : (a || b) = true := by subst hb; cases a <;> rfl
theorem bnotIt {a : Bool} (ha : a = false) : (!a) = true := by subst ha; rfl
theorem bnotIf {a : Bool} (ha : a = true) : (!a) = false := by subst ha; rfl

/-! whole numbers of other kinds -/
def toU8 (x : Int) : UInt8 := UInt8.ofNat (x % 256).toNat
theorem toU8_toNat (x : Int) : ((toU8 x).toNat : Int) = x % 256 := by
  unfold toU8
  rw [UInt8.toNat_ofNat']
  omega
def bitN (f : Nat → Nat → Nat) (b : Nat) (x y : Int) : Option Int := if (0 ≤ x ∧ x < 2 ^ b) ∧ 0 ≤ y ∧ y < 2 ^ b then some ((f x.toNat y.toNat : Nat) : Int) else none
def orN := bitN (· ||| ·)
def andN := bitN (· &&& ·)
/-- '&' of whole numbers of either sign. -/
def andI (x y : Int) : Int := wr64 (((BitVec.ofInt 64 x &&& BitVec.ofInt 64 y).toNat : Nat) : Int)
def shrW (bits : Nat) (x s : Int) : Option Int := if 0 ≤ s then some (x.fdiv (2 ^ (min s.toNat bits))) else none
def shl_i64 (x s : Int) : Option Int := if 0 ≤ s then in64 (x * 2 ^ (min s.toNat 64)) else none
def shl_u8 (x s : Int) : Option UInt8 := if 0 ≤ s then some (toU8 (x * 2 ^ (min s.toNat 8))) else none
def shr_u64 (x s : Int) := shrW 64 x s
def shr_i64 (x s : Int) := shrW 64 x s
def appS (a b : List UInt8) : Option (List UInt8) := if a.length + b.length ≤ 9223372036854775807 then some (a ++ b) else none
/-- the bytes of a string: one more limit than the model has -/
def byS (l : List UInt8) : Option (List UInt8) := if l.length ≤ 9223372036854775807 then some l else none
/-- a string that is an element of a list -/
structure Str where
  s : List UInt8
deriving DecidableEq, Inhabited
def sget {β : Type} : List (List UInt8 × β) → List UInt8 → Option β
  | [], _ => none
  | p :: m, k => if p.1 = k then some p.2 else sget m k
def sset {β : Type} : List (List UInt8 × β) → List UInt8 → β → List (List UInt8 × β)
  | [], k, v => [(k, v)]
  | p :: m, k, v => if p.1 = k then (k, v) :: m else p :: sset m k v
end Go.Gv
