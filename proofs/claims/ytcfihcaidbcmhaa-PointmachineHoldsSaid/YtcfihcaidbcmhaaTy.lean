/- Closed facts on types and functions, written by a program of mine (gowalk.py). -/
import Derived.Test.YtcfihcaidbcmhaaChecked
import Derived.Test.YtcfihcaidbcmhaaBa
import Derived.Test.YtcfihcaidbcmhaaMi
import Derived.KernelRfl
namespace Go.Proofs.Ytcfihcaidbcmhaa
open Go.Gv Go.RowKit

instance : Flat T_Machine where
  sz := 4
  bytes := 32
  enc := fun x => [Value.int .i64 x.Side, Value.int .i64 x.Until, Value.int .i64 x.Cuts, Value.bool x.Failed]
  pos := by decide
  len := fun _ => rfl
  one := fun x u hu => by simp only [List.mem_cons, List.not_mem_nil, or_false] at hu; rcases hu with rfl | rfl | rfl | rfl <;> rfl

theorem tZ24 : TZero Try.prog 24 4 (Value.agg #[(Value.int .i64 0), (Value.int .i64 0), (Value.int .i64 0), (Value.bool false)]) := by unfold TZero; kernel_rfl
theorem tA24 : TAgg Try.prog 24 4 := ⟨by kernel_rfl, by kernel_rfl⟩
theorem tS22 : TSlice Try.prog 22 3 1 := ⟨by kernel_rfl, by kernel_rfl⟩
theorem tO3 : TOne Try.prog 3 := ⟨by kernel_rfl, by kernel_rfl⟩
theorem tf7 : TFn Try.prog 7 := ⟨_, _, Try.func7, rfl, by kernel_rfl⟩
theorem mixed : Try.prog.follows .mixedOrders = true := by kernel_rfl
theorem tF24_0 : TFld Try.prog 24 0 0 := by unfold TFld; kernel_rfl
theorem tf19 : TFn Try.prog 19 := ⟨_, _, Try.func19, rfl, by kernel_rfl⟩
theorem tF24_1 : TFld Try.prog 24 1 1 := by unfold TFld; kernel_rfl
theorem tf20 : TFn Try.prog 20 := ⟨_, _, Try.func20, rfl, by kernel_rfl⟩
theorem tF24_2 : TFld Try.prog 24 2 2 := by unfold TFld; kernel_rfl
theorem tf11 : TFn Try.prog 11 := ⟨_, _, Try.func11, rfl, by kernel_rfl⟩
theorem tF24_3 : TFld Try.prog 24 3 3 := by unfold TFld; kernel_rfl
theorem tO4 : TOne Try.prog 4 := ⟨by kernel_rfl, by kernel_rfl⟩
theorem tf8 : TFn Try.prog 8 := ⟨_, _, Try.func8, rfl, by kernel_rfl⟩
theorem tf9 : TFn Try.prog 9 := ⟨_, _, Try.func9, rfl, by kernel_rfl⟩
theorem tB4 : Try.prog.underlying 4 = some .bool := by kernel_rfl
theorem tf10 : TFn Try.prog 10 := ⟨_, _, Try.func10, rfl, by kernel_rfl⟩
theorem tf12 : TFn Try.prog 12 := ⟨_, _, Try.func12, rfl, by kernel_rfl⟩
theorem tf21 : TFn Try.prog 21 := ⟨_, _, Try.func21, rfl, by kernel_rfl⟩
theorem tf22 : TFn Try.prog 22 := ⟨_, _, Try.func22, rfl, by kernel_rfl⟩
theorem tf15 : TFn Try.prog 15 := ⟨_, _, Try.func15, rfl, by kernel_rfl⟩
theorem tf13 : TFn Try.prog 13 := ⟨_, _, Try.func13, rfl, by kernel_rfl⟩
theorem tf14 : TFn Try.prog 14 := ⟨_, _, Try.func14, rfl, by kernel_rfl⟩
theorem tf16 : TFn Try.prog 16 := ⟨_, _, Try.func16, rfl, by kernel_rfl⟩
theorem tf17 : TFn Try.prog 17 := ⟨_, _, Try.func17, rfl, by kernel_rfl⟩
theorem tf18 : TFn Try.prog 18 := ⟨_, _, Try.func18, rfl, by kernel_rfl⟩

theorem eqs24 : SEq Try.prog 24 (α := T_Machine) := by
  refine ⟨by kernel_rfl, fun a b w => ?_⟩
  rw [run_equalIn_agg w 9999 24 _ _ (by kernel_rfl) (by kernel_rfl)]
  cases a; cases b
  simp [Flat.enc, go_sem, Try.underlying24, Op.eqFields]
  (repeat' split) <;> simp_all
end Go.Proofs.Ytcfihcaidbcmhaa
