/- Closed facts on types and functions, written by a program of mine (gowalk.py). -/
import Derived.Test.YtlpkbkbjohhleaaChecked
import Derived.Test.YtlpkbkbjohhleaaNb
import Derived.Test.YtlpkbkbjohhleaaMi
import Derived.Test.YtlpkbkbjohhleaaSh
import Derived.KernelRfl
namespace Go.Proofs.Ytlpkbkbjohhleaa
open Go.Gv Go.RowKit

instance : Flat T_Item where
  sz := 4
  bytes := 32
  enc := fun x => [Value.int .i64 x.Train, Value.int .i64 x.Block, Value.int .i64 x.Round, Value.int .i64 x.Length]
  pos := by decide
  len := fun _ => rfl
  one := fun x u hu => by simp only [List.mem_cons, List.not_mem_nil, or_false] at hu; rcases hu with rfl | rfl | rfl | rfl <;> rfl

instance : Flat T_Scheme where
  sz := 4
  bytes := 32
  enc := fun x => [Value.int .i64 x.Weight, Value.int .i64 x.Steps, Value.int .i64 x.Moves, Value.int .i64 x.Pushes]
  pos := by decide
  len := fun _ => rfl
  one := fun x u hu => by simp only [List.mem_cons, List.not_mem_nil, or_false] at hu; rcases hu with rfl | rfl | rfl | rfl <;> rfl

instance : Flat T_Pushed where
  sz := 5
  bytes := 40
  enc := fun x => [Value.int .i64 x.Length, Value.int .i64 x.Axles, Value.int .i64 x.Mass, Value.bool x.Gentle, Value.int .i64 x.Track]
  pos := by decide
  len := fun _ => rfl
  one := fun x u hu => by simp only [List.mem_cons, List.not_mem_nil, or_false] at hu; rcases hu with rfl | rfl | rfl | rfl | rfl <;> rfl

instance : Flat T_CutRules where
  sz := 3
  bytes := 24
  enc := fun x => [Value.int .i64 x.Wagons, Value.int .i64 x.Axles, Value.int .i64 x.Length]
  pos := by decide
  len := fun _ => rfl
  one := fun x u hu => by simp only [List.mem_cons, List.not_mem_nil, or_false] at hu; rcases hu with rfl | rfl | rfl <;> rfl

instance : Flat T_Cut where
  sz := 4
  bytes := 32
  enc := fun x => [Value.int .i64 x.From, Value.int .i64 x.To, Value.int .i64 x.Track, Value.bool x.Engine]
  pos := by decide
  len := fun _ => rfl
  one := fun x u hu => by simp only [List.mem_cons, List.not_mem_nil, or_false] at hu; rcases hu with rfl | rfl | rfl | rfl <;> rfl

theorem tf4 : TFn Try.prog 4 := ⟨_, _, Try.func4, rfl, by kernel_rfl⟩
theorem tZ27 : TZero Try.prog 27 2 (Value.agg #[(Value.slice none 0 0), (Value.int .i64 0)]) := by unfold TZero; kernel_rfl
theorem tF56_0 : TFld Try.prog 56 0 0 := by unfold TFld; kernel_rfl
theorem tO22 : TOne Try.prog 22 := ⟨by kernel_rfl, by kernel_rfl⟩
theorem tS22 : TSlice Try.prog 22 3 1 := ⟨by kernel_rfl, by kernel_rfl⟩
theorem tF56_1 : TFld Try.prog 56 1 1 := by unfold TFld; kernel_rfl
theorem tO3 : TOne Try.prog 3 := ⟨by kernel_rfl, by kernel_rfl⟩
theorem mixed : Try.prog.follows .mixedOrders = true := by kernel_rfl
theorem tf22 : TFn Try.prog 22 := ⟨_, _, Try.func22, rfl, by kernel_rfl⟩
theorem tf13 : TFn Try.prog 13 := ⟨_, _, Try.func13, rfl, by kernel_rfl⟩
theorem tS25 : TSlice Try.prog 25 30 4 := ⟨by kernel_rfl, by kernel_rfl⟩
theorem tE30 : TElem Try.prog 30 4 32 (Value.agg #[(Value.int .i64 0), (Value.int .i64 0), (Value.int .i64 0), (Value.int .i64 0)]) := by unfold TElem; kernel_rfl
theorem tf12 : TFn Try.prog 12 := ⟨_, _, Try.func12, rfl, by kernel_rfl⟩
theorem tA27 : TAgg Try.prog 27 2 := ⟨by kernel_rfl, by kernel_rfl⟩
theorem tf5 : TFn Try.prog 5 := ⟨_, _, Try.func5, rfl, by kernel_rfl⟩
theorem tF27_0 : TFld Try.prog 27 0 0 := by unfold TFld; kernel_rfl
theorem tO25 : TOne Try.prog 25 := ⟨by kernel_rfl, by kernel_rfl⟩
theorem tF30_2 : TFld Try.prog 30 2 2 := by unfold TFld; kernel_rfl
theorem tZ34 : TZero Try.prog 34 3 (Value.agg #[(Value.int .i64 0), (Value.slice none 0 0), (Value.slice none 0 0)]) := by unfold TZero; kernel_rfl
theorem tZ32 : TZero Try.prog 32 2 (Value.agg #[(Value.int .i64 0), (Value.slice none 0 0)]) := by unfold TZero; kernel_rfl
theorem tF27_1 : TFld Try.prog 27 1 1 := by unfold TFld; kernel_rfl
theorem tf37 : TFn Try.prog 37 := ⟨_, _, Try.func37, rfl, by kernel_rfl⟩
theorem tA30 : TAgg Try.prog 30 4 := ⟨by kernel_rfl, by kernel_rfl⟩
theorem tZ30 : TZero Try.prog 30 4 (Value.agg #[(Value.int .i64 0), (Value.int .i64 0), (Value.int .i64 0), (Value.int .i64 0)]) := by unfold TZero; kernel_rfl
theorem tF30_0 : TFld Try.prog 30 0 0 := by unfold TFld; kernel_rfl
theorem tF30_1 : TFld Try.prog 30 1 1 := by unfold TFld; kernel_rfl
theorem tF30_3 : TFld Try.prog 30 3 3 := by unfold TFld; kernel_rfl
theorem tf24 : TFn Try.prog 24 := ⟨_, _, Try.func24, rfl, by kernel_rfl⟩
theorem tA32 : TAgg Try.prog 32 2 := ⟨by kernel_rfl, by kernel_rfl⟩
theorem tS39 : TSlice Try.prog 39 22 1 := ⟨by kernel_rfl, by kernel_rfl⟩
theorem tE22 : TElem Try.prog 22 1 24 (Value.slice none 0 0) := by unfold TElem; kernel_rfl
theorem tE3 : TElem Try.prog 3 1 8 (Value.int .i64 0) := by unfold TElem; kernel_rfl
theorem tf26 : TFn Try.prog 26 := ⟨_, _, Try.func26, rfl, by kernel_rfl⟩
theorem tf38 : TFn Try.prog 38 := ⟨_, _, Try.func38, rfl, by kernel_rfl⟩
theorem tf39 : TFn Try.prog 39 := ⟨_, _, Try.func39, rfl, by kernel_rfl⟩
theorem tf41 : TFn Try.prog 41 := ⟨_, _, Try.func41, rfl, by kernel_rfl⟩
theorem tf49 : TFn Try.prog 49 := ⟨_, _, Try.func49, rfl, by kernel_rfl⟩
theorem tf50 : TFn Try.prog 50 := ⟨_, _, Try.func50, rfl, by kernel_rfl⟩
theorem tf51 : TFn Try.prog 51 := ⟨_, _, Try.func51, rfl, by kernel_rfl⟩
theorem tf40 : TFn Try.prog 40 := ⟨_, _, Try.func40, rfl, by kernel_rfl⟩
theorem tf25 : TFn Try.prog 25 := ⟨_, _, Try.func25, rfl, by kernel_rfl⟩
theorem tf27 : TFn Try.prog 27 := ⟨_, _, Try.func27, rfl, by kernel_rfl⟩
theorem tF32_0 : TFld Try.prog 32 0 0 := by unfold TFld; kernel_rfl
theorem tf14 : TFn Try.prog 14 := ⟨_, _, Try.func14, rfl, by kernel_rfl⟩
theorem tA34 : TAgg Try.prog 34 3 := ⟨by kernel_rfl, by kernel_rfl⟩
theorem tf29 : TFn Try.prog 29 := ⟨_, _, Try.func29, rfl, by kernel_rfl⟩
theorem tf28 : TFn Try.prog 28 := ⟨_, _, Try.func28, rfl, by kernel_rfl⟩
theorem tf30 : TFn Try.prog 30 := ⟨_, _, Try.func30, rfl, by kernel_rfl⟩
theorem tf15 : TFn Try.prog 15 := ⟨_, _, Try.func15, rfl, by kernel_rfl⟩
theorem tf6 : TFn Try.prog 6 := ⟨_, _, Try.func6, rfl, by kernel_rfl⟩
theorem tZ64 : TZero Try.prog 64 6 (Value.agg #[(Value.slice none 0 0), (Value.int .i64 0), (Value.int .i64 0), (Value.slice none 0 0), (Value.slice none 0 0), (Value.slice none 0 0)]) := by unfold TZero; kernel_rfl
theorem tAr101 : Try.prog.underlying 101 = some (.array 4 3) := by kernel_rfl
theorem tZ93 : TZero Try.prog 93 4 (Value.agg #[(Value.int .i64 0), (Value.int .i64 0), (Value.int .i64 0), (Value.int .i64 0)]) := by unfold TZero; kernel_rfl
theorem tA93 : TAgg Try.prog 93 4 := ⟨by kernel_rfl, by kernel_rfl⟩
theorem tZ68 : TZero Try.prog 68 2 (Value.agg #[(Value.slice none 0 0), (Value.int .i64 0)]) := by unfold TZero; kernel_rfl
theorem tF32_1 : TFld Try.prog 32 1 1 := by unfold TFld; kernel_rfl
theorem tf33 : TFn Try.prog 33 := ⟨_, _, Try.func33, rfl, by kernel_rfl⟩
theorem tf18 : TFn Try.prog 18 := ⟨_, _, Try.func18, rfl, by kernel_rfl⟩
theorem tA68 : TAgg Try.prog 68 2 := ⟨by kernel_rfl, by kernel_rfl⟩
theorem tF75_3 : TFld Try.prog 75 3 5 := by unfold TFld; kernel_rfl
theorem tO39 : TOne Try.prog 39 := ⟨by kernel_rfl, by kernel_rfl⟩
theorem tf34 : TFn Try.prog 34 := ⟨_, _, Try.func34, rfl, by kernel_rfl⟩
theorem tF75_4 : TFld Try.prog 75 4 6 := by unfold TFld; kernel_rfl
theorem tF75_2 : TFld Try.prog 75 2 4 := by unfold TFld; kernel_rfl
theorem tF75_1 : TFld Try.prog 75 1 2 := by unfold TFld; kernel_rfl
theorem tF75_0 : TFld Try.prog 75 0 0 := by unfold TFld; kernel_rfl
theorem tf52 : TFn Try.prog 52 := ⟨_, _, Try.func52, rfl, by kernel_rfl⟩
theorem tF75_5 : TFld Try.prog 75 5 7 := by unfold TFld; kernel_rfl
theorem tf35 : TFn Try.prog 35 := ⟨_, _, Try.func35, rfl, by kernel_rfl⟩
theorem tf19 : TFn Try.prog 19 := ⟨_, _, Try.func19, rfl, by kernel_rfl⟩
theorem tf17 : TFn Try.prog 17 := ⟨_, _, Try.func17, rfl, by kernel_rfl⟩
theorem tf55 : TFn Try.prog 55 := ⟨_, _, Try.func55, rfl, by kernel_rfl⟩
theorem tF68_1 : TFld Try.prog 68 1 1 := by unfold TFld; kernel_rfl
theorem tf42 : TFn Try.prog 42 := ⟨_, _, Try.func42, rfl, by kernel_rfl⟩
theorem tS89 : TSlice Try.prog 89 93 4 := ⟨by kernel_rfl, by kernel_rfl⟩
theorem tE93 : TElem Try.prog 93 4 32 (Value.agg #[(Value.int .i64 0), (Value.int .i64 0), (Value.int .i64 0), (Value.int .i64 0)]) := by unfold TElem; kernel_rfl
theorem tF93_1 : TFld Try.prog 93 1 1 := by unfold TFld; kernel_rfl
theorem tF93_2 : TFld Try.prog 93 2 2 := by unfold TFld; kernel_rfl
theorem tF93_0 : TFld Try.prog 93 0 0 := by unfold TFld; kernel_rfl
theorem tf45 : TFn Try.prog 45 := ⟨_, _, Try.func45, rfl, by kernel_rfl⟩
theorem tf44 : TFn Try.prog 44 := ⟨_, _, Try.func44, rfl, by kernel_rfl⟩
theorem tf71 : TFn Try.prog 71 := ⟨_, _, Try.func71, rfl, by kernel_rfl⟩
theorem tH3 : (Try.prog.underlying 3).isSome = true := by kernel_rfl
theorem tI100 : Try.prog.underlying 100 = some (.int .u64) := by kernel_rfl
theorem tH100 : (Try.prog.underlying 100).isSome = true := by kernel_rfl
theorem tI3 : Try.prog.underlying 3 = some (.int .i64) := by kernel_rfl
theorem tf93 : TFn Try.prog 93 := ⟨_, _, Try.func93, rfl, by kernel_rfl⟩
theorem tf81 : TFn Try.prog 81 := ⟨_, _, Try.func81, rfl, by kernel_rfl⟩
theorem tf72 : TFn Try.prog 72 := ⟨_, _, Try.func72, rfl, by kernel_rfl⟩
theorem tf56 : TFn Try.prog 56 := ⟨_, _, Try.func56, rfl, by kernel_rfl⟩
theorem tf43 : TFn Try.prog 43 := ⟨_, _, Try.func43, rfl, by kernel_rfl⟩
theorem tf31 : TFn Try.prog 31 := ⟨_, _, Try.func31, rfl, by kernel_rfl⟩
theorem tA64 : TAgg Try.prog 64 6 := ⟨by kernel_rfl, by kernel_rfl⟩
theorem tf46 : TFn Try.prog 46 := ⟨_, _, Try.func46, rfl, by kernel_rfl⟩
theorem tF34_0 : TFld Try.prog 34 0 0 := by unfold TFld; kernel_rfl
theorem tf47 : TFn Try.prog 47 := ⟨_, _, Try.func47, rfl, by kernel_rfl⟩
theorem tf57 : TFn Try.prog 57 := ⟨_, _, Try.func57, rfl, by kernel_rfl⟩
theorem tS116 : TSlice Try.prog 116 4 1 := ⟨by kernel_rfl, by kernel_rfl⟩
theorem tE4 : TElem Try.prog 4 1 1 (Value.bool false) := by unfold TElem; kernel_rfl
theorem tf74 : TFn Try.prog 74 := ⟨_, _, Try.func74, rfl, by kernel_rfl⟩
theorem tf61 : TFn Try.prog 61 := ⟨_, _, Try.func61, rfl, by kernel_rfl⟩
theorem tf101 : TFn Try.prog 101 := ⟨_, _, Try.func101, rfl, by kernel_rfl⟩
theorem tf99 : TFn Try.prog 99 := ⟨_, _, Try.func99, rfl, by kernel_rfl⟩
theorem tf94 : TFn Try.prog 94 := ⟨_, _, Try.func94, rfl, by kernel_rfl⟩
theorem tf82 : TFn Try.prog 82 := ⟨_, _, Try.func82, rfl, by kernel_rfl⟩
theorem tf73 : TFn Try.prog 73 := ⟨_, _, Try.func73, rfl, by kernel_rfl⟩
theorem tf58 : TFn Try.prog 58 := ⟨_, _, Try.func58, rfl, by kernel_rfl⟩
theorem tO4 : TOne Try.prog 4 := ⟨by kernel_rfl, by kernel_rfl⟩
theorem tf59 : TFn Try.prog 59 := ⟨_, _, Try.func59, rfl, by kernel_rfl⟩
theorem tf60 : TFn Try.prog 60 := ⟨_, _, Try.func60, rfl, by kernel_rfl⟩
theorem tf48 : TFn Try.prog 48 := ⟨_, _, Try.func48, rfl, by kernel_rfl⟩
theorem tf32 : TFn Try.prog 32 := ⟨_, _, Try.func32, rfl, by kernel_rfl⟩
theorem tf16 : TFn Try.prog 16 := ⟨_, _, Try.func16, rfl, by kernel_rfl⟩
theorem tF64_0 : TFld Try.prog 64 0 0 := by unfold TFld; kernel_rfl
theorem tF64_1 : TFld Try.prog 64 1 2 := by unfold TFld; kernel_rfl
theorem tF68_0 : TFld Try.prog 68 0 0 := by unfold TFld; kernel_rfl
theorem tf23 : TFn Try.prog 23 := ⟨_, _, Try.func23, rfl, by kernel_rfl⟩
theorem tf11 : TFn Try.prog 11 := ⟨_, _, Try.func11, rfl, by kernel_rfl⟩
theorem tf7 : TFn Try.prog 7 := ⟨_, _, Try.func7, rfl, by kernel_rfl⟩
theorem tf8 : TFn Try.prog 8 := ⟨_, _, Try.func8, rfl, by kernel_rfl⟩
theorem tS42 : TSlice Try.prog 42 44 5 := ⟨by kernel_rfl, by kernel_rfl⟩
theorem tE44 : TElem Try.prog 44 5 40 (Value.agg #[(Value.int .i64 0), (Value.int .i64 0), (Value.int .i64 0), (Value.bool false), (Value.int .i64 0)]) := by unfold TElem; kernel_rfl
theorem tA44 : TAgg Try.prog 44 5 := ⟨by kernel_rfl, by kernel_rfl⟩
theorem tf10 : TFn Try.prog 10 := ⟨_, _, Try.func10, rfl, by kernel_rfl⟩
theorem tA50 : TAgg Try.prog 50 3 := ⟨by kernel_rfl, by kernel_rfl⟩
theorem tF50_0 : TFld Try.prog 50 0 0 := by unfold TFld; kernel_rfl
theorem tf36 : TFn Try.prog 36 := ⟨_, _, Try.func36, rfl, by kernel_rfl⟩
theorem tF50_1 : TFld Try.prog 50 1 1 := by unfold TFld; kernel_rfl
theorem tF50_2 : TFld Try.prog 50 2 2 := by unfold TFld; kernel_rfl
theorem tZ44 : TZero Try.prog 44 5 (Value.agg #[(Value.int .i64 0), (Value.int .i64 0), (Value.int .i64 0), (Value.bool false), (Value.int .i64 0)]) := by unfold TZero; kernel_rfl
theorem tF44_0 : TFld Try.prog 44 0 0 := by unfold TFld; kernel_rfl
theorem tF44_1 : TFld Try.prog 44 1 1 := by unfold TFld; kernel_rfl
theorem tF44_2 : TFld Try.prog 44 2 2 := by unfold TFld; kernel_rfl
theorem tF44_4 : TFld Try.prog 44 4 4 := by unfold TFld; kernel_rfl
theorem tf20 : TFn Try.prog 20 := ⟨_, _, Try.func20, rfl, by kernel_rfl⟩
theorem tF44_3 : TFld Try.prog 44 3 3 := by unfold TFld; kernel_rfl
theorem tf21 : TFn Try.prog 21 := ⟨_, _, Try.func21, rfl, by kernel_rfl⟩
theorem tS45 : TSlice Try.prog 45 52 4 := ⟨by kernel_rfl, by kernel_rfl⟩
theorem tE52 : TElem Try.prog 52 4 32 (Value.agg #[(Value.int .i64 0), (Value.int .i64 0), (Value.int .i64 0), (Value.bool false)]) := by unfold TElem; kernel_rfl
theorem tf9 : TFn Try.prog 9 := ⟨_, _, Try.func9, rfl, by kernel_rfl⟩
theorem tA52 : TAgg Try.prog 52 4 := ⟨by kernel_rfl, by kernel_rfl⟩
theorem tZ52 : TZero Try.prog 52 4 (Value.agg #[(Value.int .i64 0), (Value.int .i64 0), (Value.int .i64 0), (Value.bool false)]) := by unfold TZero; kernel_rfl
theorem tF52_2 : TFld Try.prog 52 2 2 := by unfold TFld; kernel_rfl
theorem tF52_0 : TFld Try.prog 52 0 0 := by unfold TFld; kernel_rfl
theorem tF52_1 : TFld Try.prog 52 1 1 := by unfold TFld; kernel_rfl


end Go.Proofs.Ytlpkbkbjohhleaa
