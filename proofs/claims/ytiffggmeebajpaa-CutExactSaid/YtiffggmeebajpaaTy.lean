/- Closed facts on types and functions, written by a program of mine (gowalk.py). -/
import Derived.Test.YtiffggmeebajpaaChecked
import Derived.Test.YtiffggmeebajpaaBa
import Derived.Test.YtiffggmeebajpaaMi
import Derived.KernelRfl
namespace Go.Proofs.Ytiffggmeebajpaa
open Go.Gv Go.RowKit

instance : Flat T_Pushed where
  sz := 5
  bytes := 40
  enc := fun x => [Value.int .i64 x.Length, Value.int .i64 x.Axles, Value.int .i64 x.Mass, Value.bool x.Gentle, Value.int .i64 x.Track]
  pos := by decide
  len := fun _ => rfl
  one := fun x u hu => by simp only [List.mem_cons, List.not_mem_nil, or_false] at hu; rcases hu with rfl | rfl | rfl | rfl | rfl <;> rfl

instance : Flat T_CutRules where
  sz := 3
  bytes := 24
  enc := fun x => [Value.int .i64 x.Wagons, Value.int .i64 x.Axles, Value.int .i64 x.Length]
  pos := by decide
  len := fun _ => rfl
  one := fun x u hu => by simp only [List.mem_cons, List.not_mem_nil, or_false] at hu; rcases hu with rfl | rfl | rfl <;> rfl

instance : Flat T_Cut where
  sz := 4
  bytes := 32
  enc := fun x => [Value.int .i64 x.From, Value.int .i64 x.To, Value.int .i64 x.Track, Value.bool x.Engine]
  pos := by decide
  len := fun _ => rfl
  one := fun x u hu => by simp only [List.mem_cons, List.not_mem_nil, or_false] at hu; rcases hu with rfl | rfl | rfl | rfl <;> rfl

theorem tS24 : TSlice Try.prog 24 26 5 := ⟨by kernel_rfl, by kernel_rfl⟩
theorem tA26 : TAgg Try.prog 26 5 := ⟨by kernel_rfl, by kernel_rfl⟩
theorem tZ26 : TZero Try.prog 26 5 (Value.agg #[(Value.int .i64 0), (Value.int .i64 0), (Value.int .i64 0), (Value.bool false), (Value.int .i64 0)]) := by unfold TZero; kernel_rfl
theorem tF26_1 : TFld Try.prog 26 1 1 := by unfold TFld; kernel_rfl
theorem tO3 : TOne Try.prog 3 := ⟨by kernel_rfl, by kernel_rfl⟩
theorem tF26_0 : TFld Try.prog 26 0 0 := by unfold TFld; kernel_rfl
theorem mixed : Try.prog.follows .mixedOrders = true := by kernel_rfl
theorem tF26_3 : TFld Try.prog 26 3 3 := by unfold TFld; kernel_rfl
theorem tO4 : TOne Try.prog 4 := ⟨by kernel_rfl, by kernel_rfl⟩
theorem tF26_4 : TFld Try.prog 26 4 4 := by unfold TFld; kernel_rfl
theorem tF23_0 : TFld Try.prog 23 0 0 := by unfold TFld; kernel_rfl
theorem tF23_1 : TFld Try.prog 23 1 1 := by unfold TFld; kernel_rfl
theorem tF23_2 : TFld Try.prog 23 2 2 := by unfold TFld; kernel_rfl
theorem tf31 : TFn Try.prog 31 := ⟨_, _, Try.func31, rfl, by kernel_rfl⟩
theorem tF26_2 : TFld Try.prog 26 2 2 := by unfold TFld; kernel_rfl
theorem tA23 : TAgg Try.prog 23 3 := ⟨by kernel_rfl, by kernel_rfl⟩
theorem tf22 : TFn Try.prog 22 := ⟨_, _, Try.func22, rfl, by kernel_rfl⟩
theorem tf23 : TFn Try.prog 23 := ⟨_, _, Try.func23, rfl, by kernel_rfl⟩
theorem tS27 : TSlice Try.prog 27 33 4 := ⟨by kernel_rfl, by kernel_rfl⟩
theorem tE33 : TElem Try.prog 33 4 32 (Value.agg #[(Value.int .i64 0), (Value.int .i64 0), (Value.int .i64 0), (Value.bool false)]) := by unfold TElem; kernel_rfl
theorem tf9 : TFn Try.prog 9 := ⟨_, _, Try.func9, rfl, by kernel_rfl⟩
theorem tA33 : TAgg Try.prog 33 4 := ⟨by kernel_rfl, by kernel_rfl⟩
theorem tZ33 : TZero Try.prog 33 4 (Value.agg #[(Value.int .i64 0), (Value.int .i64 0), (Value.int .i64 0), (Value.bool false)]) := by unfold TZero; kernel_rfl
theorem tF33_0 : TFld Try.prog 33 0 0 := by unfold TFld; kernel_rfl
theorem tS35 : TSlice Try.prog 35 3 1 := ⟨by kernel_rfl, by kernel_rfl⟩
theorem tE3 : TElem Try.prog 3 1 8 (Value.int .i64 0) := by unfold TElem; kernel_rfl
theorem tF33_1 : TFld Try.prog 33 1 1 := by unfold TFld; kernel_rfl
theorem tF33_2 : TFld Try.prog 33 2 2 := by unfold TFld; kernel_rfl
theorem tF33_3 : TFld Try.prog 33 3 3 := by unfold TFld; kernel_rfl
theorem tB4 : Try.prog.underlying 4 = some .bool := by kernel_rfl
theorem tF56_0 : TFld Try.prog 56 0 0 := by unfold TFld; kernel_rfl
theorem tO35 : TOne Try.prog 35 := ⟨by kernel_rfl, by kernel_rfl⟩
theorem tF56_1 : TFld Try.prog 56 1 1 := by unfold TFld; kernel_rfl
theorem tf13 : TFn Try.prog 13 := ⟨_, _, Try.func13, rfl, by kernel_rfl⟩
theorem tZ23 : TZero Try.prog 23 3 (Value.agg #[(Value.int .i64 0), (Value.int .i64 0), (Value.int .i64 0)]) := by unfold TZero; kernel_rfl
theorem tf15 : TFn Try.prog 15 := ⟨_, _, Try.func15, rfl, by kernel_rfl⟩
theorem tf19 : TFn Try.prog 19 := ⟨_, _, Try.func19, rfl, by kernel_rfl⟩
theorem tE26 : TElem Try.prog 26 5 40 (Value.agg #[(Value.int .i64 0), (Value.int .i64 0), (Value.int .i64 0), (Value.bool false), (Value.int .i64 0)]) := by unfold TElem; kernel_rfl
theorem tf25 : TFn Try.prog 25 := ⟨_, _, Try.func25, rfl, by kernel_rfl⟩
theorem tf26 : TFn Try.prog 26 := ⟨_, _, Try.func26, rfl, by kernel_rfl⟩
theorem tf18 : TFn Try.prog 18 := ⟨_, _, Try.func18, rfl, by kernel_rfl⟩
theorem tf24 : TFn Try.prog 24 := ⟨_, _, Try.func24, rfl, by kernel_rfl⟩
theorem tf14 : TFn Try.prog 14 := ⟨_, _, Try.func14, rfl, by kernel_rfl⟩
theorem tf21 : TFn Try.prog 21 := ⟨_, _, Try.func21, rfl, by kernel_rfl⟩
theorem tf27 : TFn Try.prog 27 := ⟨_, _, Try.func27, rfl, by kernel_rfl⟩
theorem tf28 : TFn Try.prog 28 := ⟨_, _, Try.func28, rfl, by kernel_rfl⟩
theorem tf16 : TFn Try.prog 16 := ⟨_, _, Try.func16, rfl, by kernel_rfl⟩
theorem tf29 : TFn Try.prog 29 := ⟨_, _, Try.func29, rfl, by kernel_rfl⟩
theorem tf17 : TFn Try.prog 17 := ⟨_, _, Try.func17, rfl, by kernel_rfl⟩
theorem tf30 : TFn Try.prog 30 := ⟨_, _, Try.func30, rfl, by kernel_rfl⟩
theorem tf10 : TFn Try.prog 10 := ⟨_, _, Try.func10, rfl, by kernel_rfl⟩
theorem tf11 : TFn Try.prog 11 := ⟨_, _, Try.func11, rfl, by kernel_rfl⟩
theorem tf12 : TFn Try.prog 12 := ⟨_, _, Try.func12, rfl, by kernel_rfl⟩
theorem tf20 : TFn Try.prog 20 := ⟨_, _, Try.func20, rfl, by kernel_rfl⟩

theorem eqs33 : SEq Try.prog 33 (α := T_Cut) := by
  refine ⟨by kernel_rfl, fun a b w => ?_⟩
  rw [run_equalIn_agg w 9999 33 _ _ (by kernel_rfl) (by kernel_rfl)]
  cases a; cases b
  simp [Flat.enc, go_sem, Try.underlying33, Op.eqFields]
  (repeat' split) <;> simp_all
end Go.Proofs.Ytiffggmeebajpaa
