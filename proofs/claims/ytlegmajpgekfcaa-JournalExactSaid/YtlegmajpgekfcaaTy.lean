/- Closed facts on types and functions, written by a program of mine (gowalk.py). -/
import Derived.Test.YtlegmajpgekfcaaChecked
import Derived.Test.YtlegmajpgekfcaaNb
import Derived.Test.YtlegmajpgekfcaaMi
import Derived.KernelRfl
namespace Go.Proofs.Ytlegmajpgekfcaa
open Go.Gv Go.RowKit



theorem tf7 : TFn Try.prog 7 := ⟨_, _, Try.func7, rfl, by kernel_rfl⟩
theorem tF49_0 : TFld Try.prog 49 0 0 := by unfold TFld; kernel_rfl
theorem tO22 : TOne Try.prog 22 := ⟨by kernel_rfl, by kernel_rfl⟩
theorem tS22 : TSlice Try.prog 22 3 1 := ⟨by kernel_rfl, by kernel_rfl⟩
theorem mixed : Try.prog.follows .mixedOrders = true := by kernel_rfl
theorem tF49_1 : TFld Try.prog 49 1 1 := by unfold TFld; kernel_rfl
theorem tO3 : TOne Try.prog 3 := ⟨by kernel_rfl, by kernel_rfl⟩
theorem tf17 : TFn Try.prog 17 := ⟨_, _, Try.func17, rfl, by kernel_rfl⟩
theorem tf15 : TFn Try.prog 15 := ⟨_, _, Try.func15, rfl, by kernel_rfl⟩
theorem tS27 : TSlice Try.prog 27 5 1 := ⟨by kernel_rfl, by kernel_rfl⟩
theorem tE5 : TElem Try.prog 5 1 1 (Value.int .u8 0) := by unfold TElem; kernel_rfl
theorem tH3 : (Try.prog.underlying 3).isSome = true := by kernel_rfl
theorem tI5 : Try.prog.underlying 5 = some (.int .u8) := by kernel_rfl
theorem tO5 : TOne Try.prog 5 := ⟨by kernel_rfl, by kernel_rfl⟩
theorem tS25 : TSlice Try.prog 25 27 1 := ⟨by kernel_rfl, by kernel_rfl⟩
theorem tE27 : TElem Try.prog 27 1 24 (Value.slice none 0 0) := by unfold TElem; kernel_rfl
theorem tf8 : TFn Try.prog 8 := ⟨_, _, Try.func8, rfl, by kernel_rfl⟩
theorem tO27 : TOne Try.prog 27 := ⟨by kernel_rfl, by kernel_rfl⟩
theorem tH5 : (Try.prog.underlying 5).isSome = true := by kernel_rfl
theorem tI3 : Try.prog.underlying 3 = some (.int .i64) := by kernel_rfl
theorem tf27 : TFn Try.prog 27 := ⟨_, _, Try.func27, rfl, by kernel_rfl⟩
theorem tf21 : TFn Try.prog 21 := ⟨_, _, Try.func21, rfl, by kernel_rfl⟩
theorem tE3 : TElem Try.prog 3 1 8 (Value.int .i64 0) := by unfold TElem; kernel_rfl
theorem tf9 : TFn Try.prog 9 := ⟨_, _, Try.func9, rfl, by kernel_rfl⟩
theorem tf10 : TFn Try.prog 10 := ⟨_, _, Try.func10, rfl, by kernel_rfl⟩
theorem tI31 : Try.prog.underlying 31 = some (.int .u64) := by kernel_rfl
theorem tI50 : Try.prog.underlying 50 = some (.int .u16) := by kernel_rfl
theorem tf28 : TFn Try.prog 28 := ⟨_, _, Try.func28, rfl, by kernel_rfl⟩
theorem tf22 : TFn Try.prog 22 := ⟨_, _, Try.func22, rfl, by kernel_rfl⟩
theorem tH50 : (Try.prog.underlying 50).isSome = true := by kernel_rfl
theorem tf11 : TFn Try.prog 11 := ⟨_, _, Try.func11, rfl, by kernel_rfl⟩
theorem tf19 : TFn Try.prog 19 := ⟨_, _, Try.func19, rfl, by kernel_rfl⟩
theorem tf12 : TFn Try.prog 12 := ⟨_, _, Try.func12, rfl, by kernel_rfl⟩
theorem tf18 : TFn Try.prog 18 := ⟨_, _, Try.func18, rfl, by kernel_rfl⟩
theorem tU5 : Try.prog.underlying 5 = some (.int .u8) := by kernel_rfl
theorem tf23 : TFn Try.prog 23 := ⟨_, _, Try.func23, rfl, by kernel_rfl⟩
theorem tf13 : TFn Try.prog 13 := ⟨_, _, Try.func13, rfl, by kernel_rfl⟩
theorem tStr9 : Try.prog.underlying 9 = some .string := by kernel_rfl
theorem tf24 : TFn Try.prog 24 := ⟨_, _, Try.func24, rfl, by kernel_rfl⟩
theorem tf14 : TFn Try.prog 14 := ⟨_, _, Try.func14, rfl, by kernel_rfl⟩
theorem tf25 : TFn Try.prog 25 := ⟨_, _, Try.func25, rfl, by kernel_rfl⟩
theorem tf20 : TFn Try.prog 20 := ⟨_, _, Try.func20, rfl, by kernel_rfl⟩
theorem tf26 : TFn Try.prog 26 := ⟨_, _, Try.func26, rfl, by kernel_rfl⟩
theorem tf16 : TFn Try.prog 16 := ⟨_, _, Try.func16, rfl, by kernel_rfl⟩


end Go.Proofs.Ytlegmajpgekfcaa
