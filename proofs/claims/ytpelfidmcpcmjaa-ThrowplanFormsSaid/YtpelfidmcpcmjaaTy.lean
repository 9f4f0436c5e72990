/- Closed facts on types and functions, written by a program of mine (gowalk.py). -/
import Derived.Test.YtpelfidmcpcmjaaChecked
import Derived.Test.YtpelfidmcpcmjaaNb
import Derived.Test.YtpelfidmcpcmjaaMi
import Derived.KernelRfl
namespace Go.Proofs.Ytpelfidmcpcmjaa
open Go.Gv Go.RowKit

instance : Flat T_Span where
  sz := 4
  bytes := 32
  enc := fun x => [Value.int .i64 x.Element, Value.int .i64 x.Side, Value.int .i64 x.From, Value.int .i64 x.To]
  pos := by decide
  len := fun _ => rfl
  one := fun x u hu => by simp only [List.mem_cons, List.not_mem_nil, or_false] at hu; rcases hu with rfl | rfl | rfl | rfl <;> rfl

instance : Flat T_Throw where
  sz := 2
  bytes := 16
  enc := fun x => [Value.int .i64 x.Element, Value.int .i64 x.Side]
  pos := by decide
  len := fun _ => rfl
  one := fun x u hu => by simp only [List.mem_cons, List.not_mem_nil, or_false] at hu; rcases hu with rfl | rfl <;> rfl

instance : Flat T_Command where
  sz := 4
  bytes := 32
  enc := fun x => [Value.int .i64 x.Time, Value.int .i64 x.Element, Value.int .i64 x.Side, Value.int .i64 x.Cut]
  pos := by decide
  len := fun _ => rfl
  one := fun x u hu => by simp only [List.mem_cons, List.not_mem_nil, or_false] at hu; rcases hu with rfl | rfl | rfl | rfl <;> rfl

theorem tf8 : TFn Try.prog 8 := ⟨_, _, Try.func8, rfl, by kernel_rfl⟩
theorem tF55_0 : TFld Try.prog 55 0 0 := by unfold TFld; kernel_rfl
theorem tO22 : TOne Try.prog 22 := ⟨by kernel_rfl, by kernel_rfl⟩
theorem tS22 : TSlice Try.prog 22 3 1 := ⟨by kernel_rfl, by kernel_rfl⟩
theorem mixed : Try.prog.follows .mixedOrders = true := by kernel_rfl
theorem tF55_1 : TFld Try.prog 55 1 1 := by unfold TFld; kernel_rfl
theorem tO3 : TOne Try.prog 3 := ⟨by kernel_rfl, by kernel_rfl⟩
theorem tf11 : TFn Try.prog 11 := ⟨_, _, Try.func11, rfl, by kernel_rfl⟩
theorem tS34 : TSlice Try.prog 34 52 4 := ⟨by kernel_rfl, by kernel_rfl⟩
theorem tf13 : TFn Try.prog 13 := ⟨_, _, Try.func13, rfl, by kernel_rfl⟩
theorem tE52 : TElem Try.prog 52 4 32 (Value.agg #[(Value.int .i64 0), (Value.int .i64 0), (Value.int .i64 0), (Value.int .i64 0)]) := by unfold TElem; kernel_rfl
theorem tf36 : TFn Try.prog 36 := ⟨_, _, Try.func36, rfl, by kernel_rfl⟩
theorem tF52_1 : TFld Try.prog 52 1 1 := by unfold TFld; kernel_rfl
theorem tF52_0 : TFld Try.prog 52 0 0 := by unfold TFld; kernel_rfl
theorem tS23 : TSlice Try.prog 23 34 1 := ⟨by kernel_rfl, by kernel_rfl⟩
theorem tE34 : TElem Try.prog 34 1 24 (Value.slice none 0 0) := by unfold TElem; kernel_rfl
theorem tf22 : TFn Try.prog 22 := ⟨_, _, Try.func22, rfl, by kernel_rfl⟩
theorem tO34 : TOne Try.prog 34 := ⟨by kernel_rfl, by kernel_rfl⟩
theorem tA52 : TAgg Try.prog 52 4 := ⟨by kernel_rfl, by kernel_rfl⟩
theorem tZ52 : TZero Try.prog 52 4 (Value.agg #[(Value.int .i64 0), (Value.int .i64 0), (Value.int .i64 0), (Value.int .i64 0)]) := by unfold TZero; kernel_rfl
theorem tF52_2 : TFld Try.prog 52 2 2 := by unfold TFld; kernel_rfl
theorem tF52_3 : TFld Try.prog 52 3 3 := by unfold TFld; kernel_rfl
theorem tf43 : TFn Try.prog 43 := ⟨_, _, Try.func43, rfl, by kernel_rfl⟩
theorem tf37 : TFn Try.prog 37 := ⟨_, _, Try.func37, rfl, by kernel_rfl⟩
theorem tf20 : TFn Try.prog 20 := ⟨_, _, Try.func20, rfl, by kernel_rfl⟩
theorem tf44 : TFn Try.prog 44 := ⟨_, _, Try.func44, rfl, by kernel_rfl⟩
theorem tf38 : TFn Try.prog 38 := ⟨_, _, Try.func38, rfl, by kernel_rfl⟩
theorem tE3 : TElem Try.prog 3 1 8 (Value.int .i64 0) := by unfold TElem; kernel_rfl
theorem tf23 : TFn Try.prog 23 := ⟨_, _, Try.func23, rfl, by kernel_rfl⟩
theorem tS24 : TSlice Try.prog 24 38 2 := ⟨by kernel_rfl, by kernel_rfl⟩
theorem tE38 : TElem Try.prog 38 2 16 (Value.agg #[(Value.int .i64 0), (Value.int .i64 0)]) := by unfold TElem; kernel_rfl
theorem tf24 : TFn Try.prog 24 := ⟨_, _, Try.func24, rfl, by kernel_rfl⟩
theorem tf9 : TFn Try.prog 9 := ⟨_, _, Try.func9, rfl, by kernel_rfl⟩
theorem tF38_0 : TFld Try.prog 38 0 0 := by unfold TFld; kernel_rfl
theorem tF38_1 : TFld Try.prog 38 1 1 := by unfold TFld; kernel_rfl
theorem tf39 : TFn Try.prog 39 := ⟨_, _, Try.func39, rfl, by kernel_rfl⟩
theorem tf25 : TFn Try.prog 25 := ⟨_, _, Try.func25, rfl, by kernel_rfl⟩
theorem tf21 : TFn Try.prog 21 := ⟨_, _, Try.func21, rfl, by kernel_rfl⟩
theorem tS25 : TSlice Try.prog 25 41 4 := ⟨by kernel_rfl, by kernel_rfl⟩
theorem tF41_1 : TFld Try.prog 41 1 1 := by unfold TFld; kernel_rfl
theorem tF41_2 : TFld Try.prog 41 2 2 := by unfold TFld; kernel_rfl
theorem tZ41 : TZero Try.prog 41 4 (Value.agg #[(Value.int .i64 0), (Value.int .i64 0), (Value.int .i64 0), (Value.int .i64 0)]) := by unfold TZero; kernel_rfl
theorem tA41 : TAgg Try.prog 41 4 := ⟨by kernel_rfl, by kernel_rfl⟩
theorem tF41_0 : TFld Try.prog 41 0 0 := by unfold TFld; kernel_rfl
theorem tE41 : TElem Try.prog 41 4 32 (Value.agg #[(Value.int .i64 0), (Value.int .i64 0), (Value.int .i64 0), (Value.int .i64 0)]) := by unfold TElem; kernel_rfl
theorem tf10 : TFn Try.prog 10 := ⟨_, _, Try.func10, rfl, by kernel_rfl⟩
theorem tf12 : TFn Try.prog 12 := ⟨_, _, Try.func12, rfl, by kernel_rfl⟩
theorem tM66 : TMap Try.prog 66 3 4 (Value.bool false) := ⟨by kernel_rfl, ⟨.i64, by kernel_rfl⟩, by kernel_rfl⟩
theorem tf49 : TFn Try.prog 49 := ⟨_, _, Try.func49, rfl, by kernel_rfl⟩
theorem tf45 : TFn Try.prog 45 := ⟨_, _, Try.func45, rfl, by kernel_rfl⟩
theorem tf46 : TFn Try.prog 46 := ⟨_, _, Try.func46, rfl, by kernel_rfl⟩
theorem tf41 : TFn Try.prog 41 := ⟨_, _, Try.func41, rfl, by kernel_rfl⟩
theorem tA38 : TAgg Try.prog 38 2 := ⟨by kernel_rfl, by kernel_rfl⟩
theorem tZ38 : TZero Try.prog 38 2 (Value.agg #[(Value.int .i64 0), (Value.int .i64 0)]) := by unfold TZero; kernel_rfl
theorem tf33 : TFn Try.prog 33 := ⟨_, _, Try.func33, rfl, by kernel_rfl⟩
theorem tf28 : TFn Try.prog 28 := ⟨_, _, Try.func28, rfl, by kernel_rfl⟩
theorem tM64 : TMap Try.prog 64 3 3 (Value.int .i64 0) := ⟨by kernel_rfl, ⟨.i64, by kernel_rfl⟩, by kernel_rfl⟩
theorem tf29 : TFn Try.prog 29 := ⟨_, _, Try.func29, rfl, by kernel_rfl⟩
theorem tF68_1 : TFld Try.prog 68 1 1 := by unfold TFld; kernel_rfl
theorem tO64 : TOne Try.prog 64 := ⟨by kernel_rfl, by kernel_rfl⟩
theorem tf35 : TFn Try.prog 35 := ⟨_, _, Try.func35, rfl, by kernel_rfl⟩
theorem tF68_2 : TFld Try.prog 68 2 2 := by unfold TFld; kernel_rfl
theorem tF68_3 : TFld Try.prog 68 3 3 := by unfold TFld; kernel_rfl
theorem tO66 : TOne Try.prog 66 := ⟨by kernel_rfl, by kernel_rfl⟩
theorem tF68_0 : TFld Try.prog 68 0 0 := by unfold TFld; kernel_rfl
theorem tF68_4 : TFld Try.prog 68 4 4 := by unfold TFld; kernel_rfl
theorem tO25 : TOne Try.prog 25 := ⟨by kernel_rfl, by kernel_rfl⟩
theorem tf30 : TFn Try.prog 30 := ⟨_, _, Try.func30, rfl, by kernel_rfl⟩
theorem tf32 : TFn Try.prog 32 := ⟨_, _, Try.func32, rfl, by kernel_rfl⟩
theorem tf47 : TFn Try.prog 47 := ⟨_, _, Try.func47, rfl, by kernel_rfl⟩
theorem tH3 : (Try.prog.underlying 3).isSome = true := by kernel_rfl
theorem tI89 : Try.prog.underlying 89 = some (.int .u64) := by kernel_rfl
theorem tH89 : (Try.prog.underlying 89).isSome = true := by kernel_rfl
theorem tI3 : Try.prog.underlying 3 = some (.int .i64) := by kernel_rfl
theorem tf51 : TFn Try.prog 51 := ⟨_, _, Try.func51, rfl, by kernel_rfl⟩
theorem tf50 : TFn Try.prog 50 := ⟨_, _, Try.func50, rfl, by kernel_rfl⟩
theorem tf48 : TFn Try.prog 48 := ⟨_, _, Try.func48, rfl, by kernel_rfl⟩
theorem tf42 : TFn Try.prog 42 := ⟨_, _, Try.func42, rfl, by kernel_rfl⟩
theorem tf31 : TFn Try.prog 31 := ⟨_, _, Try.func31, rfl, by kernel_rfl⟩
theorem tf16 : TFn Try.prog 16 := ⟨_, _, Try.func16, rfl, by kernel_rfl⟩
theorem tM72 : TMap Try.prog 72 3 25 (Value.slice none 0 0) := ⟨by kernel_rfl, ⟨.i64, by kernel_rfl⟩, by kernel_rfl⟩
theorem tf34 : TFn Try.prog 34 := ⟨_, _, Try.func34, rfl, by kernel_rfl⟩
theorem tf17 : TFn Try.prog 17 := ⟨_, _, Try.func17, rfl, by kernel_rfl⟩
theorem tf40 : TFn Try.prog 40 := ⟨_, _, Try.func40, rfl, by kernel_rfl⟩
theorem tf26 : TFn Try.prog 26 := ⟨_, _, Try.func26, rfl, by kernel_rfl⟩
theorem tf27 : TFn Try.prog 27 := ⟨_, _, Try.func27, rfl, by kernel_rfl⟩
theorem tB4 : Try.prog.underlying 4 = some .bool := by kernel_rfl
theorem tf14 : TFn Try.prog 14 := ⟨_, _, Try.func14, rfl, by kernel_rfl⟩
theorem tf15 : TFn Try.prog 15 := ⟨_, _, Try.func15, rfl, by kernel_rfl⟩
theorem tf18 : TFn Try.prog 18 := ⟨_, _, Try.func18, rfl, by kernel_rfl⟩
theorem tf19 : TFn Try.prog 19 := ⟨_, _, Try.func19, rfl, by kernel_rfl⟩
theorem tF41_3 : TFld Try.prog 41 3 3 := by unfold TFld; kernel_rfl

theorem eqs41 : SEq Try.prog 41 (α := T_Command) := by
  refine ⟨by kernel_rfl, fun a b w => ?_⟩
  rw [run_equalIn_agg w 9999 41 _ _ (by kernel_rfl) (by kernel_rfl)]
  cases a; cases b
  simp [Flat.enc, go_sem, Try.underlying41, Op.eqFields]
  (repeat' split) <;> simp_all
end Go.Proofs.Ytpelfidmcpcmjaa
