/- Closed facts on types and functions, written by a program of mine (gowalk.py). -/
import Derived.Test.YtodjacghadpbfaaChecked
import Derived.Test.YtodjacghadpbfaaNb
import Derived.Test.YtodjacghadpbfaaMi
import Derived.KernelRfl
namespace Go.Proofs.Ytodjacghadpbfaa
open Go.Gv Go.RowKit

instance : Flat T_Task where
  sz := 2
  bytes := 16
  enc := fun x => [Value.int .i64 x.From, Value.int .i64 x.To]
  pos := by decide
  len := fun _ => rfl
  one := fun x u hu => by simp only [List.mem_cons, List.not_mem_nil, or_false] at hu; rcases hu with rfl | rfl <;> rfl

theorem tf7 : TFn Try.prog 7 := ⟨_, _, Try.func7, rfl, by kernel_rfl⟩
theorem tF48_0 : TFld Try.prog 48 0 0 := by unfold TFld; kernel_rfl
theorem tO22 : TOne Try.prog 22 := ⟨by kernel_rfl, by kernel_rfl⟩
theorem tS22 : TSlice Try.prog 22 3 1 := ⟨by kernel_rfl, by kernel_rfl⟩
theorem mixed : Try.prog.follows .mixedOrders = true := by kernel_rfl
theorem tF48_1 : TFld Try.prog 48 1 1 := by unfold TFld; kernel_rfl
theorem tO3 : TOne Try.prog 3 := ⟨by kernel_rfl, by kernel_rfl⟩
theorem tf11 : TFn Try.prog 11 := ⟨_, _, Try.func11, rfl, by kernel_rfl⟩
theorem tS23 : TSlice Try.prog 23 29 2 := ⟨by kernel_rfl, by kernel_rfl⟩
theorem tE29 : TElem Try.prog 29 2 16 (Value.agg #[(Value.int .i64 0), (Value.int .i64 0)]) := by unfold TElem; kernel_rfl
theorem tf8 : TFn Try.prog 8 := ⟨_, _, Try.func8, rfl, by kernel_rfl⟩
theorem tf9 : TFn Try.prog 9 := ⟨_, _, Try.func9, rfl, by kernel_rfl⟩
theorem tF29_0 : TFld Try.prog 29 0 0 := by unfold TFld; kernel_rfl
theorem tF29_1 : TFld Try.prog 29 1 1 := by unfold TFld; kernel_rfl
theorem tf19 : TFn Try.prog 19 := ⟨_, _, Try.func19, rfl, by kernel_rfl⟩
theorem tE3 : TElem Try.prog 3 1 8 (Value.int .i64 0) := by unfold TElem; kernel_rfl
theorem tf20 : TFn Try.prog 20 := ⟨_, _, Try.func20, rfl, by kernel_rfl⟩
theorem tA29 : TAgg Try.prog 29 2 := ⟨by kernel_rfl, by kernel_rfl⟩
theorem tf18 : TFn Try.prog 18 := ⟨_, _, Try.func18, rfl, by kernel_rfl⟩
theorem tf10 : TFn Try.prog 10 := ⟨_, _, Try.func10, rfl, by kernel_rfl⟩
theorem tZ29 : TZero Try.prog 29 2 (Value.agg #[(Value.int .i64 0), (Value.int .i64 0)]) := by unfold TZero; kernel_rfl
theorem tf24 : TFn Try.prog 24 := ⟨_, _, Try.func24, rfl, by kernel_rfl⟩
theorem tO23 : TOne Try.prog 23 := ⟨by kernel_rfl, by kernel_rfl⟩
theorem tf30 : TFn Try.prog 30 := ⟨_, _, Try.func30, rfl, by kernel_rfl⟩
theorem tf28 : TFn Try.prog 28 := ⟨_, _, Try.func28, rfl, by kernel_rfl⟩
theorem tf27 : TFn Try.prog 27 := ⟨_, _, Try.func27, rfl, by kernel_rfl⟩
theorem tf31 : TFn Try.prog 31 := ⟨_, _, Try.func31, rfl, by kernel_rfl⟩
theorem tH3 : (Try.prog.underlying 3).isSome = true := by kernel_rfl
theorem tI57 : Try.prog.underlying 57 = some (.int .u64) := by kernel_rfl
theorem tH57 : (Try.prog.underlying 57).isSome = true := by kernel_rfl
theorem tI3 : Try.prog.underlying 3 = some (.int .i64) := by kernel_rfl
theorem tf34 : TFn Try.prog 34 := ⟨_, _, Try.func34, rfl, by kernel_rfl⟩
theorem tf33 : TFn Try.prog 33 := ⟨_, _, Try.func33, rfl, by kernel_rfl⟩
theorem tf32 : TFn Try.prog 32 := ⟨_, _, Try.func32, rfl, by kernel_rfl⟩
theorem tf29 : TFn Try.prog 29 := ⟨_, _, Try.func29, rfl, by kernel_rfl⟩
theorem tf26 : TFn Try.prog 26 := ⟨_, _, Try.func26, rfl, by kernel_rfl⟩
theorem tf25 : TFn Try.prog 25 := ⟨_, _, Try.func25, rfl, by kernel_rfl⟩
theorem tf15 : TFn Try.prog 15 := ⟨_, _, Try.func15, rfl, by kernel_rfl⟩
theorem tf17 : TFn Try.prog 17 := ⟨_, _, Try.func17, rfl, by kernel_rfl⟩
theorem tf21 : TFn Try.prog 21 := ⟨_, _, Try.func21, rfl, by kernel_rfl⟩
theorem tf16 : TFn Try.prog 16 := ⟨_, _, Try.func16, rfl, by kernel_rfl⟩
theorem tf22 : TFn Try.prog 22 := ⟨_, _, Try.func22, rfl, by kernel_rfl⟩
theorem tf23 : TFn Try.prog 23 := ⟨_, _, Try.func23, rfl, by kernel_rfl⟩
theorem tB4 : Try.prog.underlying 4 = some .bool := by kernel_rfl
theorem tf12 : TFn Try.prog 12 := ⟨_, _, Try.func12, rfl, by kernel_rfl⟩
theorem tf13 : TFn Try.prog 13 := ⟨_, _, Try.func13, rfl, by kernel_rfl⟩
theorem tf14 : TFn Try.prog 14 := ⟨_, _, Try.func14, rfl, by kernel_rfl⟩
theorem tAr44 : Try.prog.underlying 44 = some (.array 2 22) := by kernel_rfl


end Go.Proofs.Ytodjacghadpbfaa
