/- Closed facts on types and functions, written by a program of mine (gowalk.py). -/
import Derived.Test.YtgabhhciodicoaaChecked
import Derived.Test.YtgabhhciodicoaaNb
import Derived.Test.YtgabhhciodicoaaMi
import Derived.KernelRfl
namespace Go.Proofs.Ytgabhhciodicoaa
open Go.Gv Go.RowKit

instance : Flat T_Span where
  sz := 4
  bytes := 32
  enc := fun x => [Value.int .i64 x.Element, Value.int .i64 x.Side, Value.int .i64 x.From, Value.int .i64 x.To]
  pos := by decide
  len := fun _ => rfl
  one := fun x u hu => by simp only [List.mem_cons, List.not_mem_nil, or_false] at hu; rcases hu with rfl | rfl | rfl | rfl <;> rfl

theorem tf9 : TFn Try.prog 9 := ⟨_, _, Try.func9, rfl, by kernel_rfl⟩
theorem tf10 : TFn Try.prog 10 := ⟨_, _, Try.func10, rfl, by kernel_rfl⟩
theorem tF52_0 : TFld Try.prog 52 0 0 := by unfold TFld; kernel_rfl
theorem tO22 : TOne Try.prog 22 := ⟨by kernel_rfl, by kernel_rfl⟩
theorem tS22 : TSlice Try.prog 22 3 1 := ⟨by kernel_rfl, by kernel_rfl⟩
theorem mixed : Try.prog.follows .mixedOrders = true := by kernel_rfl
theorem tF52_1 : TFld Try.prog 52 1 1 := by unfold TFld; kernel_rfl
theorem tO3 : TOne Try.prog 3 := ⟨by kernel_rfl, by kernel_rfl⟩
theorem tf23 : TFn Try.prog 23 := ⟨_, _, Try.func23, rfl, by kernel_rfl⟩
theorem tS26 : TSlice Try.prog 26 32 4 := ⟨by kernel_rfl, by kernel_rfl⟩
theorem tf15 : TFn Try.prog 15 := ⟨_, _, Try.func15, rfl, by kernel_rfl⟩
theorem tE32 : TElem Try.prog 32 4 32 (Value.agg #[(Value.int .i64 0), (Value.int .i64 0), (Value.int .i64 0), (Value.int .i64 0)]) := by unfold TElem; kernel_rfl
theorem tf11 : TFn Try.prog 11 := ⟨_, _, Try.func11, rfl, by kernel_rfl⟩
theorem tS35 : TSlice Try.prog 35 26 1 := ⟨by kernel_rfl, by kernel_rfl⟩
theorem tO26 : TOne Try.prog 26 := ⟨by kernel_rfl, by kernel_rfl⟩
theorem tA32 : TAgg Try.prog 32 4 := ⟨by kernel_rfl, by kernel_rfl⟩
theorem tZ32 : TZero Try.prog 32 4 (Value.agg #[(Value.int .i64 0), (Value.int .i64 0), (Value.int .i64 0), (Value.int .i64 0)]) := by unfold TZero; kernel_rfl
theorem tF32_0 : TFld Try.prog 32 0 0 := by unfold TFld; kernel_rfl
theorem tM64 : TMap Try.prog 64 3 4 (Value.bool false) := ⟨by kernel_rfl, ⟨.i64, by kernel_rfl⟩, by kernel_rfl⟩
theorem tF32_1 : TFld Try.prog 32 1 1 := by unfold TFld; kernel_rfl
theorem tF32_2 : TFld Try.prog 32 2 2 := by unfold TFld; kernel_rfl
theorem tF32_3 : TFld Try.prog 32 3 3 := by unfold TFld; kernel_rfl
theorem tf38 : TFn Try.prog 38 := ⟨_, _, Try.func38, rfl, by kernel_rfl⟩
theorem tf27 : TFn Try.prog 27 := ⟨_, _, Try.func27, rfl, by kernel_rfl⟩
theorem tf28 : TFn Try.prog 28 := ⟨_, _, Try.func28, rfl, by kernel_rfl⟩
theorem tf12 : TFn Try.prog 12 := ⟨_, _, Try.func12, rfl, by kernel_rfl⟩
theorem tS54 : TSlice Try.prog 54 22 1 := ⟨by kernel_rfl, by kernel_rfl⟩
theorem tE22 : TElem Try.prog 22 1 24 (Value.slice none 0 0) := by unfold TElem; kernel_rfl
theorem tE3 : TElem Try.prog 3 1 8 (Value.int .i64 0) := by unfold TElem; kernel_rfl
theorem tf37 : TFn Try.prog 37 := ⟨_, _, Try.func37, rfl, by kernel_rfl⟩
theorem tf39 : TFn Try.prog 39 := ⟨_, _, Try.func39, rfl, by kernel_rfl⟩
theorem tf30 : TFn Try.prog 30 := ⟨_, _, Try.func30, rfl, by kernel_rfl⟩
theorem tf17 : TFn Try.prog 17 := ⟨_, _, Try.func17, rfl, by kernel_rfl⟩
theorem tf31 : TFn Try.prog 31 := ⟨_, _, Try.func31, rfl, by kernel_rfl⟩
theorem tf16 : TFn Try.prog 16 := ⟨_, _, Try.func16, rfl, by kernel_rfl⟩
theorem tf29 : TFn Try.prog 29 := ⟨_, _, Try.func29, rfl, by kernel_rfl⟩
theorem tf13 : TFn Try.prog 13 := ⟨_, _, Try.func13, rfl, by kernel_rfl⟩
theorem tE26 : TElem Try.prog 26 1 24 (Value.slice none 0 0) := by unfold TElem; kernel_rfl
theorem tf14 : TFn Try.prog 14 := ⟨_, _, Try.func14, rfl, by kernel_rfl⟩
theorem tf32 : TFn Try.prog 32 := ⟨_, _, Try.func32, rfl, by kernel_rfl⟩
theorem tf20 : TFn Try.prog 20 := ⟨_, _, Try.func20, rfl, by kernel_rfl⟩
theorem tf21 : TFn Try.prog 21 := ⟨_, _, Try.func21, rfl, by kernel_rfl⟩
theorem tf33 : TFn Try.prog 33 := ⟨_, _, Try.func33, rfl, by kernel_rfl⟩
theorem tf18 : TFn Try.prog 18 := ⟨_, _, Try.func18, rfl, by kernel_rfl⟩
theorem tf19 : TFn Try.prog 19 := ⟨_, _, Try.func19, rfl, by kernel_rfl⟩
theorem tf22 : TFn Try.prog 22 := ⟨_, _, Try.func22, rfl, by kernel_rfl⟩
theorem tf34 : TFn Try.prog 34 := ⟨_, _, Try.func34, rfl, by kernel_rfl⟩
theorem tf24 : TFn Try.prog 24 := ⟨_, _, Try.func24, rfl, by kernel_rfl⟩
theorem tf35 : TFn Try.prog 35 := ⟨_, _, Try.func35, rfl, by kernel_rfl⟩
theorem tf26 : TFn Try.prog 26 := ⟨_, _, Try.func26, rfl, by kernel_rfl⟩
theorem tf36 : TFn Try.prog 36 := ⟨_, _, Try.func36, rfl, by kernel_rfl⟩
theorem tB4 : Try.prog.underlying 4 = some .bool := by kernel_rfl
theorem tf25 : TFn Try.prog 25 := ⟨_, _, Try.func25, rfl, by kernel_rfl⟩


end Go.Proofs.Ytgabhhciodicoaa
