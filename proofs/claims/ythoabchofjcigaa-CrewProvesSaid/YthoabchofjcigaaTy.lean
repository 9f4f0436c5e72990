/- Closed facts on types and functions, written by a program of mine (gowalk.py). -/
import Derived.Test.YthoabchofjcigaaChecked
import Derived.Test.YthoabchofjcigaaNb
import Derived.Test.YthoabchofjcigaaMi
import Derived.KernelRfl
namespace Go.Proofs.Ythoabchofjcigaa
open Go.Gv Go.RowKit

instance : Flat T_Task where
  sz := 2
  bytes := 16
  enc := fun x => [Value.int .i64 x.From, Value.int .i64 x.To]
  pos := by decide
  len := fun _ => rfl
  one := fun x u hu => by simp only [List.mem_cons, List.not_mem_nil, or_false] at hu; rcases hu with rfl | rfl <;> rfl

instance : Flat T_Crew where
  sz := 3
  bytes := 24
  enc := fun x => [Value.int .i64 x.From, Value.int .i64 x.To, Value.int .i64 x.Most]
  pos := by decide
  len := fun _ => rfl
  one := fun x u hu => by simp only [List.mem_cons, List.not_mem_nil, or_false] at hu; rcases hu with rfl | rfl | rfl <;> rfl

instance : Flat T_Pair where
  sz := 2
  bytes := 16
  enc := fun x => [Value.int .i64 x.Duty, Value.int .i64 x.Crew]
  pos := by decide
  len := fun _ => rfl
  one := fun x u hu => by simp only [List.mem_cons, List.not_mem_nil, or_false] at hu; rcases hu with rfl | rfl <;> rfl

theorem tf7 : TFn Try.prog 7 := ⟨_, _, Try.func7, rfl, by kernel_rfl⟩
theorem tF58_0 : TFld Try.prog 58 0 0 := by unfold TFld; kernel_rfl
theorem tO22 : TOne Try.prog 22 := ⟨by kernel_rfl, by kernel_rfl⟩
theorem tS22 : TSlice Try.prog 22 3 1 := ⟨by kernel_rfl, by kernel_rfl⟩
theorem mixed : Try.prog.follows .mixedOrders = true := by kernel_rfl
theorem tF58_1 : TFld Try.prog 58 1 1 := by unfold TFld; kernel_rfl
theorem tO3 : TOne Try.prog 3 := ⟨by kernel_rfl, by kernel_rfl⟩
theorem tf10 : TFn Try.prog 10 := ⟨_, _, Try.func10, rfl, by kernel_rfl⟩
theorem tS25 : TSlice Try.prog 25 37 2 := ⟨by kernel_rfl, by kernel_rfl⟩
theorem tE37 : TElem Try.prog 37 2 16 (Value.agg #[(Value.int .i64 0), (Value.int .i64 0)]) := by unfold TElem; kernel_rfl
theorem tf14 : TFn Try.prog 14 := ⟨_, _, Try.func14, rfl, by kernel_rfl⟩
theorem tS26 : TSlice Try.prog 26 39 3 := ⟨by kernel_rfl, by kernel_rfl⟩
theorem tE39 : TElem Try.prog 39 3 24 (Value.agg #[(Value.int .i64 0), (Value.int .i64 0), (Value.int .i64 0)]) := by unfold TElem; kernel_rfl
theorem tf8 : TFn Try.prog 8 := ⟨_, _, Try.func8, rfl, by kernel_rfl⟩
theorem tA37 : TAgg Try.prog 37 2 := ⟨by kernel_rfl, by kernel_rfl⟩
theorem tZ37 : TZero Try.prog 37 2 (Value.agg #[(Value.int .i64 0), (Value.int .i64 0)]) := by unfold TZero; kernel_rfl
theorem tF37_0 : TFld Try.prog 37 0 0 := by unfold TFld; kernel_rfl
theorem tF37_1 : TFld Try.prog 37 1 1 := by unfold TFld; kernel_rfl
theorem tf32 : TFn Try.prog 32 := ⟨_, _, Try.func32, rfl, by kernel_rfl⟩
theorem tA39 : TAgg Try.prog 39 3 := ⟨by kernel_rfl, by kernel_rfl⟩
theorem tZ39 : TZero Try.prog 39 3 (Value.agg #[(Value.int .i64 0), (Value.int .i64 0), (Value.int .i64 0)]) := by unfold TZero; kernel_rfl
theorem tF39_0 : TFld Try.prog 39 0 0 := by unfold TFld; kernel_rfl
theorem tF39_1 : TFld Try.prog 39 1 1 := by unfold TFld; kernel_rfl
theorem tF39_2 : TFld Try.prog 39 2 2 := by unfold TFld; kernel_rfl
theorem tf23 : TFn Try.prog 23 := ⟨_, _, Try.func23, rfl, by kernel_rfl⟩
theorem tZ22 : TZero Try.prog 22 1 (Value.slice none 0 0) := by unfold TZero; kernel_rfl
theorem tO25 : TOne Try.prog 25 := ⟨by kernel_rfl, by kernel_rfl⟩
theorem tO26 : TOne Try.prog 26 := ⟨by kernel_rfl, by kernel_rfl⟩
theorem tE3 : TElem Try.prog 3 1 8 (Value.int .i64 0) := by unfold TElem; kernel_rfl
theorem tS33 : TSlice Try.prog 33 4 1 := ⟨by kernel_rfl, by kernel_rfl⟩
theorem tE4 : TElem Try.prog 4 1 1 (Value.bool false) := by unfold TElem; kernel_rfl
theorem tZ33 : TZero Try.prog 33 1 (Value.slice none 0 0) := by unfold TZero; kernel_rfl
theorem tO33 : TOne Try.prog 33 := ⟨by kernel_rfl, by kernel_rfl⟩
theorem tZ68 : TZero Try.prog 68 1 Value.nilFunc := by unfold TZero; kernel_rfl
theorem tO68 : TOne Try.prog 68 := ⟨by kernel_rfl, by kernel_rfl⟩
theorem tO4 : TOne Try.prog 4 := ⟨by kernel_rfl, by kernel_rfl⟩
theorem tf19 : TFn Try.prog 19 := ⟨_, _, Try.func19, rfl, by kernel_rfl⟩
theorem tf33 : TFn Try.prog 33 := ⟨_, _, Try.func33, rfl, by kernel_rfl⟩
theorem tf24 : TFn Try.prog 24 := ⟨_, _, Try.func24, rfl, by kernel_rfl⟩
theorem tS29 : TSlice Try.prog 29 41 2 := ⟨by kernel_rfl, by kernel_rfl⟩
theorem tE41 : TElem Try.prog 41 2 16 (Value.agg #[(Value.int .i64 0), (Value.int .i64 0)]) := by unfold TElem; kernel_rfl
theorem tf9 : TFn Try.prog 9 := ⟨_, _, Try.func9, rfl, by kernel_rfl⟩
theorem tf11 : TFn Try.prog 11 := ⟨_, _, Try.func11, rfl, by kernel_rfl⟩
theorem tA41 : TAgg Try.prog 41 2 := ⟨by kernel_rfl, by kernel_rfl⟩
theorem tZ41 : TZero Try.prog 41 2 (Value.agg #[(Value.int .i64 0), (Value.int .i64 0)]) := by unfold TZero; kernel_rfl
theorem tF41_0 : TFld Try.prog 41 0 0 := by unfold TFld; kernel_rfl
theorem tF41_1 : TFld Try.prog 41 1 1 := by unfold TFld; kernel_rfl
theorem tf12 : TFn Try.prog 12 := ⟨_, _, Try.func12, rfl, by kernel_rfl⟩
theorem tZ62 : TZero Try.prog 62 1 Value.nilFunc := by unfold TZero; kernel_rfl
theorem tO62 : TOne Try.prog 62 := ⟨by kernel_rfl, by kernel_rfl⟩
theorem tf26 : TFn Try.prog 26 := ⟨_, _, Try.func26, rfl, by kernel_rfl⟩
theorem tf16 : TFn Try.prog 16 := ⟨_, _, Try.func16, rfl, by kernel_rfl⟩
theorem tf25 : TFn Try.prog 25 := ⟨_, _, Try.func25, rfl, by kernel_rfl⟩
theorem tf13 : TFn Try.prog 13 := ⟨_, _, Try.func13, rfl, by kernel_rfl⟩
theorem tf15 : TFn Try.prog 15 := ⟨_, _, Try.func15, rfl, by kernel_rfl⟩
theorem tf27 : TFn Try.prog 27 := ⟨_, _, Try.func27, rfl, by kernel_rfl⟩
theorem tf28 : TFn Try.prog 28 := ⟨_, _, Try.func28, rfl, by kernel_rfl⟩
theorem tf17 : TFn Try.prog 17 := ⟨_, _, Try.func17, rfl, by kernel_rfl⟩
theorem tf20 : TFn Try.prog 20 := ⟨_, _, Try.func20, rfl, by kernel_rfl⟩
theorem tf29 : TFn Try.prog 29 := ⟨_, _, Try.func29, rfl, by kernel_rfl⟩
theorem tf30 : TFn Try.prog 30 := ⟨_, _, Try.func30, rfl, by kernel_rfl⟩
theorem tf21 : TFn Try.prog 21 := ⟨_, _, Try.func21, rfl, by kernel_rfl⟩
theorem tf18 : TFn Try.prog 18 := ⟨_, _, Try.func18, rfl, by kernel_rfl⟩
theorem tB4 : Try.prog.underlying 4 = some .bool := by kernel_rfl
theorem tF67_2 : TFld Try.prog 67 2 2 := by unfold TFld; kernel_rfl
theorem tF67_3 : TFld Try.prog 67 3 3 := by unfold TFld; kernel_rfl
theorem tF67_1 : TFld Try.prog 67 1 1 := by unfold TFld; kernel_rfl
theorem tF67_0 : TFld Try.prog 67 0 0 := by unfold TFld; kernel_rfl
theorem tf31 : TFn Try.prog 31 := ⟨_, _, Try.func31, rfl, by kernel_rfl⟩
theorem tf22 : TFn Try.prog 22 := ⟨_, _, Try.func22, rfl, by kernel_rfl⟩

theorem eqs41 : SEq Try.prog 41 (α := T_Pair) := by
  refine ⟨by kernel_rfl, fun a b w => ?_⟩
  rw [run_equalIn_agg w 9999 41 _ _ (by kernel_rfl) (by kernel_rfl)]
  cases a; cases b
  simp [Flat.enc, go_sem, Try.underlying41, Op.eqFields]
  (repeat' split) <;> simp_all
end Go.Proofs.Ythoabchofjcigaa
