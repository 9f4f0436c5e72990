/- Closed facts on types and functions, written by a program of mine (gowalk.py). -/
import Derived.Test.YtlpkbkbjohhleaaGreatChecked
import Derived.Test.YtlpkbkbjohhleaaGreatNb
import Derived.Test.YtlpkbkbjohhleaaGreatMi
import Derived.Test.YtlpkbkbjohhleaaGreatSh
import Derived.KernelRfl
namespace Go.Proofs.YtlpkbkbjohhleaaGreat
open Go.Gv Go.RowKit

instance : Flat T_Wagon where
  sz := 8
  bytes := 80
  enc := fun x => [Value.string (bs x.Number), Value.int .i64 x.Length, Value.int .i64 x.Axles, Value.int .i64 x.Mass, Value.int .i64 x.Brake, Value.int .i64 x.Goods, Value.bool x.Gentle, Value.string (bs x.Dest)]
  pos := by decide
  len := fun _ => rfl
  one := fun x u hu => by simp only [List.mem_cons, List.not_mem_nil, or_false] at hu; rcases hu with rfl | rfl | rfl | rfl | rfl | rfl | rfl | rfl <;> rfl

instance : Flat T_Item where
  sz := 4
  bytes := 32
  enc := fun x => [Value.int .i64 x.Train, Value.int .i64 x.Block, Value.int .i64 x.Round, Value.int .i64 x.Length]
  pos := by decide
  len := fun _ => rfl
  one := fun x u hu => by simp only [List.mem_cons, List.not_mem_nil, or_false] at hu; rcases hu with rfl | rfl | rfl | rfl <;> rfl

instance : Flat T_Scheme where
  sz := 4
  bytes := 32
  enc := fun x => [Value.int .i64 x.Weight, Value.int .i64 x.Steps, Value.int .i64 x.Moves, Value.int .i64 x.Pushes]
  pos := by decide
  len := fun _ => rfl
  one := fun x u hu => by simp only [List.mem_cons, List.not_mem_nil, or_false] at hu; rcases hu with rfl | rfl | rfl | rfl <;> rfl

theorem tf6 : TFn Tryz.prog 6 := ⟨_, _, Tryz.func6, rfl, by kernel_rfl⟩
theorem tF83_0 : TFld Tryz.prog 83 0 0 := by unfold TFld; kernel_rfl
theorem tO22 : TOne Tryz.prog 22 := ⟨by kernel_rfl, by kernel_rfl⟩
theorem tS22 : TSlice Tryz.prog 22 3 1 := ⟨by kernel_rfl, by kernel_rfl⟩
theorem tF83_1 : TFld Tryz.prog 83 1 1 := by unfold TFld; kernel_rfl
theorem tO3 : TOne Tryz.prog 3 := ⟨by kernel_rfl, by kernel_rfl⟩
theorem mixed : Tryz.prog.follows .mixedOrders = true := by kernel_rfl
theorem tf39 : TFn Tryz.prog 39 := ⟨_, _, Tryz.func39, rfl, by kernel_rfl⟩
theorem tS48 : TSlice Tryz.prog 48 51 8 := ⟨by kernel_rfl, by kernel_rfl⟩
theorem tZ51 : TZero Tryz.prog 51 8 (Value.agg #[(Value.string (bs [])), (Value.int .i64 0), (Value.int .i64 0), (Value.int .i64 0), (Value.int .i64 0), (Value.int .i64 0), (Value.bool false), (Value.string (bs []))]) := by unfold TZero; kernel_rfl
theorem tS60 : TSlice Tryz.prog 60 5 1 := ⟨by kernel_rfl, by kernel_rfl⟩
theorem tE5 : TElem Tryz.prog 5 1 1 (Value.int .u8 0) := by unfold TElem; kernel_rfl
theorem tH3 : (Tryz.prog.underlying 3).isSome = true := by kernel_rfl
theorem tI5 : Tryz.prog.underlying 5 = some (.int .u8) := by kernel_rfl
theorem tO5 : TOne Tryz.prog 5 := ⟨by kernel_rfl, by kernel_rfl⟩
theorem tU5 : Tryz.prog.underlying 5 = some (.int .u8) := by kernel_rfl
theorem tStr9 : Tryz.prog.underlying 9 = some .string := by kernel_rfl
theorem tf93 : TFn Tryz.prog 93 := ⟨_, _, Tryz.func93, rfl, by kernel_rfl⟩
theorem tf104 : TFn Tryz.prog 104 := ⟨_, _, Tryz.func104, rfl, by kernel_rfl⟩
theorem tH5 : (Tryz.prog.underlying 5).isSome = true := by kernel_rfl
theorem tI3 : Tryz.prog.underlying 3 = some (.int .i64) := by kernel_rfl
theorem tf105 : TFn Tryz.prog 105 := ⟨_, _, Tryz.func105, rfl, by kernel_rfl⟩
theorem tf94 : TFn Tryz.prog 94 := ⟨_, _, Tryz.func94, rfl, by kernel_rfl⟩
theorem tf71 : TFn Tryz.prog 71 := ⟨_, _, Tryz.func71, rfl, by kernel_rfl⟩
theorem tf23 : TFn Tryz.prog 23 := ⟨_, _, Tryz.func23, rfl, by kernel_rfl⟩
theorem tS65 : TSlice Tryz.prog 65 9 1 := ⟨by kernel_rfl, by kernel_rfl⟩
theorem tO9 : TOne Tryz.prog 9 := ⟨by kernel_rfl, by kernel_rfl⟩
theorem tf72 : TFn Tryz.prog 72 := ⟨_, _, Tryz.func72, rfl, by kernel_rfl⟩
theorem tA51 : TAgg Tryz.prog 51 8 := ⟨by kernel_rfl, by kernel_rfl⟩
theorem tF51_0 : TFld Tryz.prog 51 0 0 := by unfold TFld; kernel_rfl
theorem tF51_2 : TFld Tryz.prog 51 2 2 := by unfold TFld; kernel_rfl
theorem tF51_1 : TFld Tryz.prog 51 1 1 := by unfold TFld; kernel_rfl
theorem tF51_3 : TFld Tryz.prog 51 3 3 := by unfold TFld; kernel_rfl
theorem tF51_4 : TFld Tryz.prog 51 4 4 := by unfold TFld; kernel_rfl
theorem tf40 : TFn Tryz.prog 40 := ⟨_, _, Tryz.func40, rfl, by kernel_rfl⟩
theorem tE51 : TElem Tryz.prog 51 8 80 (Value.agg #[(Value.string (bs [])), (Value.int .i64 0), (Value.int .i64 0), (Value.int .i64 0), (Value.int .i64 0), (Value.int .i64 0), (Value.bool false), (Value.string (bs []))]) := by unfold TElem; kernel_rfl
theorem tf14 : TFn Tryz.prog 14 := ⟨_, _, Tryz.func14, rfl, by kernel_rfl⟩
theorem tf73 : TFn Tryz.prog 73 := ⟨_, _, Tryz.func73, rfl, by kernel_rfl⟩
theorem tf95 : TFn Tryz.prog 95 := ⟨_, _, Tryz.func95, rfl, by kernel_rfl⟩
theorem tf74 : TFn Tryz.prog 74 := ⟨_, _, Tryz.func74, rfl, by kernel_rfl⟩
theorem tf41 : TFn Tryz.prog 41 := ⟨_, _, Tryz.func41, rfl, by kernel_rfl⟩
theorem tf15 : TFn Tryz.prog 15 := ⟨_, _, Tryz.func15, rfl, by kernel_rfl⟩
theorem tf76 : TFn Tryz.prog 76 := ⟨_, _, Tryz.func76, rfl, by kernel_rfl⟩
theorem tF51_5 : TFld Tryz.prog 51 5 5 := by unfold TFld; kernel_rfl
theorem tF51_7 : TFld Tryz.prog 51 7 7 := by unfold TFld; kernel_rfl
theorem tf77 : TFn Tryz.prog 77 := ⟨_, _, Tryz.func77, rfl, by kernel_rfl⟩
theorem tf52 : TFn Tryz.prog 52 := ⟨_, _, Tryz.func52, rfl, by kernel_rfl⟩
theorem tM146 : TMapS Tryz.prog 146 9 4 (Value.bool false) := ⟨by kernel_rfl, by kernel_rfl, by kernel_rfl⟩
theorem tf46 : TFn Tryz.prog 46 := ⟨_, _, Tryz.func46, rfl, by kernel_rfl⟩
theorem tf47 : TFn Tryz.prog 47 := ⟨_, _, Tryz.func47, rfl, by kernel_rfl⟩
theorem tF51_6 : TFld Tryz.prog 51 6 6 := by unfold TFld; kernel_rfl
theorem tO4 : TOne Tryz.prog 4 := ⟨by kernel_rfl, by kernel_rfl⟩
theorem tf48 : TFn Tryz.prog 48 := ⟨_, _, Tryz.func48, rfl, by kernel_rfl⟩
theorem tf19 : TFn Tryz.prog 19 := ⟨_, _, Tryz.func19, rfl, by kernel_rfl⟩
theorem tf49 : TFn Tryz.prog 49 := ⟨_, _, Tryz.func49, rfl, by kernel_rfl⟩
theorem tF114_1 : TFld Tryz.prog 114 1 1 := by unfold TFld; kernel_rfl
theorem tF114_0 : TFld Tryz.prog 114 0 0 := by unfold TFld; kernel_rfl
theorem tO60 : TOne Tryz.prog 60 := ⟨by kernel_rfl, by kernel_rfl⟩
theorem tf75 : TFn Tryz.prog 75 := ⟨_, _, Tryz.func75, rfl, by kernel_rfl⟩
theorem tf50 : TFn Tryz.prog 50 := ⟨_, _, Tryz.func50, rfl, by kernel_rfl⟩
theorem tf51 : TFn Tryz.prog 51 := ⟨_, _, Tryz.func51, rfl, by kernel_rfl⟩
theorem tf20 : TFn Tryz.prog 20 := ⟨_, _, Tryz.func20, rfl, by kernel_rfl⟩
theorem tS68 : TSlice Tryz.prog 68 67 1 := ⟨by kernel_rfl, by kernel_rfl⟩
theorem tA67 : TAgg Tryz.prog 67 1 := ⟨by kernel_rfl, by kernel_rfl⟩
theorem tZ67 : TZero Tryz.prog 67 1 (Value.agg #[(Value.slice none 0 0)]) := by unfold TZero; kernel_rfl
theorem tF67_0 : TFld Tryz.prog 67 0 0 := by unfold TFld; kernel_rfl
theorem tO65 : TOne Tryz.prog 65 := ⟨by kernel_rfl, by kernel_rfl⟩
theorem tf78 : TFn Tryz.prog 78 := ⟨_, _, Tryz.func78, rfl, by kernel_rfl⟩
theorem tf53 : TFn Tryz.prog 53 := ⟨_, _, Tryz.func53, rfl, by kernel_rfl⟩
theorem tS25 : TSlice Tryz.prog 25 40 4 := ⟨by kernel_rfl, by kernel_rfl⟩
theorem tE40 : TElem Tryz.prog 40 4 32 (Value.agg #[(Value.int .i64 0), (Value.int .i64 0), (Value.int .i64 0), (Value.int .i64 0)]) := by unfold TElem; kernel_rfl
theorem tf21 : TFn Tryz.prog 21 := ⟨_, _, Tryz.func21, rfl, by kernel_rfl⟩
theorem tf22 : TFn Tryz.prog 22 := ⟨_, _, Tryz.func22, rfl, by kernel_rfl⟩
theorem tE3 : TElem Tryz.prog 3 1 8 (Value.int .i64 0) := by unfold TElem; kernel_rfl
theorem tZ74 : TZero Tryz.prog 74 6 (Value.agg #[(Value.slice none 0 0), (Value.int .i64 0), (Value.int .i64 0), (Value.slice none 0 0), (Value.slice none 0 0), (Value.slice none 0 0)]) := by unfold TZero; kernel_rfl
theorem tF27_0 : TFld Tryz.prog 27 0 0 := by unfold TFld; kernel_rfl
theorem tO25 : TOne Tryz.prog 25 := ⟨by kernel_rfl, by kernel_rfl⟩
theorem tF27_1 : TFld Tryz.prog 27 1 1 := by unfold TFld; kernel_rfl
theorem tf67 : TFn Tryz.prog 67 := ⟨_, _, Tryz.func67, rfl, by kernel_rfl⟩
theorem tA40 : TAgg Tryz.prog 40 4 := ⟨by kernel_rfl, by kernel_rfl⟩
theorem tZ40 : TZero Tryz.prog 40 4 (Value.agg #[(Value.int .i64 0), (Value.int .i64 0), (Value.int .i64 0), (Value.int .i64 0)]) := by unfold TZero; kernel_rfl
theorem tF40_0 : TFld Tryz.prog 40 0 0 := by unfold TFld; kernel_rfl
theorem tF40_1 : TFld Tryz.prog 40 1 1 := by unfold TFld; kernel_rfl
theorem tF40_2 : TFld Tryz.prog 40 2 2 := by unfold TFld; kernel_rfl
theorem tF40_3 : TFld Tryz.prog 40 3 3 := by unfold TFld; kernel_rfl
theorem tf59 : TFn Tryz.prog 59 := ⟨_, _, Tryz.func59, rfl, by kernel_rfl⟩
theorem tAr149 : Tryz.prog.underlying 149 = some (.array 4 3) := by kernel_rfl
theorem tZ124 : TZero Tryz.prog 124 4 (Value.agg #[(Value.int .i64 0), (Value.int .i64 0), (Value.int .i64 0), (Value.int .i64 0)]) := by unfold TZero; kernel_rfl
theorem tZ30 : TZero Tryz.prog 30 2 (Value.agg #[(Value.int .i64 0), (Value.slice none 0 0)]) := by unfold TZero; kernel_rfl
theorem tZ27 : TZero Tryz.prog 27 2 (Value.agg #[(Value.slice none 0 0), (Value.int .i64 0)]) := by unfold TZero; kernel_rfl
theorem tA27 : TAgg Tryz.prog 27 2 := ⟨by kernel_rfl, by kernel_rfl⟩
theorem tA30 : TAgg Tryz.prog 30 2 := ⟨by kernel_rfl, by kernel_rfl⟩
theorem tS41 : TSlice Tryz.prog 41 22 1 := ⟨by kernel_rfl, by kernel_rfl⟩
theorem tE22 : TElem Tryz.prog 22 1 24 (Value.slice none 0 0) := by unfold TElem; kernel_rfl
theorem tf61 : TFn Tryz.prog 61 := ⟨_, _, Tryz.func61, rfl, by kernel_rfl⟩
theorem tf88 : TFn Tryz.prog 88 := ⟨_, _, Tryz.func88, rfl, by kernel_rfl⟩
theorem tf89 : TFn Tryz.prog 89 := ⟨_, _, Tryz.func89, rfl, by kernel_rfl⟩
theorem tf70 : TFn Tryz.prog 70 := ⟨_, _, Tryz.func70, rfl, by kernel_rfl⟩
theorem tf90 : TFn Tryz.prog 90 := ⟨_, _, Tryz.func90, rfl, by kernel_rfl⟩
theorem tf91 : TFn Tryz.prog 91 := ⟨_, _, Tryz.func91, rfl, by kernel_rfl⟩
theorem tf92 : TFn Tryz.prog 92 := ⟨_, _, Tryz.func92, rfl, by kernel_rfl⟩
theorem tf69 : TFn Tryz.prog 69 := ⟨_, _, Tryz.func69, rfl, by kernel_rfl⟩
theorem tf60 : TFn Tryz.prog 60 := ⟨_, _, Tryz.func60, rfl, by kernel_rfl⟩
theorem tf34 : TFn Tryz.prog 34 := ⟨_, _, Tryz.func34, rfl, by kernel_rfl⟩
theorem tF30_0 : TFld Tryz.prog 30 0 0 := by unfold TFld; kernel_rfl
theorem tf28 : TFn Tryz.prog 28 := ⟨_, _, Tryz.func28, rfl, by kernel_rfl⟩
theorem tA124 : TAgg Tryz.prog 124 4 := ⟨by kernel_rfl, by kernel_rfl⟩
theorem tZ79 : TZero Tryz.prog 79 2 (Value.agg #[(Value.slice none 0 0), (Value.int .i64 0)]) := by unfold TZero; kernel_rfl
theorem tF30_1 : TFld Tryz.prog 30 1 1 := by unfold TFld; kernel_rfl
theorem tf66 : TFn Tryz.prog 66 := ⟨_, _, Tryz.func66, rfl, by kernel_rfl⟩
theorem tf31 : TFn Tryz.prog 31 := ⟨_, _, Tryz.func31, rfl, by kernel_rfl⟩
theorem tA79 : TAgg Tryz.prog 79 2 := ⟨by kernel_rfl, by kernel_rfl⟩
theorem tF131_3 : TFld Tryz.prog 131 3 5 := by unfold TFld; kernel_rfl
theorem tO41 : TOne Tryz.prog 41 := ⟨by kernel_rfl, by kernel_rfl⟩
theorem tf85 : TFn Tryz.prog 85 := ⟨_, _, Tryz.func85, rfl, by kernel_rfl⟩
theorem tF131_4 : TFld Tryz.prog 131 4 6 := by unfold TFld; kernel_rfl
theorem tF131_2 : TFld Tryz.prog 131 2 4 := by unfold TFld; kernel_rfl
theorem tF131_1 : TFld Tryz.prog 131 1 2 := by unfold TFld; kernel_rfl
theorem tF131_0 : TFld Tryz.prog 131 0 0 := by unfold TFld; kernel_rfl
theorem tf101 : TFn Tryz.prog 101 := ⟨_, _, Tryz.func101, rfl, by kernel_rfl⟩
theorem tF131_5 : TFld Tryz.prog 131 5 7 := by unfold TFld; kernel_rfl
theorem tf87 : TFn Tryz.prog 87 := ⟨_, _, Tryz.func87, rfl, by kernel_rfl⟩
theorem tf58 : TFn Tryz.prog 58 := ⟨_, _, Tryz.func58, rfl, by kernel_rfl⟩
theorem tf26 : TFn Tryz.prog 26 := ⟨_, _, Tryz.func26, rfl, by kernel_rfl⟩
theorem tf96 : TFn Tryz.prog 96 := ⟨_, _, Tryz.func96, rfl, by kernel_rfl⟩
theorem tF79_1 : TFld Tryz.prog 79 1 1 := by unfold TFld; kernel_rfl
theorem tf79 : TFn Tryz.prog 79 := ⟨_, _, Tryz.func79, rfl, by kernel_rfl⟩
theorem tS120 : TSlice Tryz.prog 120 124 4 := ⟨by kernel_rfl, by kernel_rfl⟩
theorem tE124 : TElem Tryz.prog 124 4 32 (Value.agg #[(Value.int .i64 0), (Value.int .i64 0), (Value.int .i64 0), (Value.int .i64 0)]) := by unfold TElem; kernel_rfl
theorem tF124_1 : TFld Tryz.prog 124 1 1 := by unfold TFld; kernel_rfl
theorem tF124_2 : TFld Tryz.prog 124 2 2 := by unfold TFld; kernel_rfl
theorem tF124_0 : TFld Tryz.prog 124 0 0 := by unfold TFld; kernel_rfl
theorem tf82 : TFn Tryz.prog 82 := ⟨_, _, Tryz.func82, rfl, by kernel_rfl⟩
theorem tf81 : TFn Tryz.prog 81 := ⟨_, _, Tryz.func81, rfl, by kernel_rfl⟩
theorem tf106 : TFn Tryz.prog 106 := ⟨_, _, Tryz.func106, rfl, by kernel_rfl⟩
theorem tI107 : Tryz.prog.underlying 107 = some (.int .u64) := by kernel_rfl
theorem tH107 : (Tryz.prog.underlying 107).isSome = true := by kernel_rfl
theorem tf137 : TFn Tryz.prog 137 := ⟨_, _, Tryz.func137, rfl, by kernel_rfl⟩
theorem tf121 : TFn Tryz.prog 121 := ⟨_, _, Tryz.func121, rfl, by kernel_rfl⟩
theorem tf107 : TFn Tryz.prog 107 := ⟨_, _, Tryz.func107, rfl, by kernel_rfl⟩
theorem tf97 : TFn Tryz.prog 97 := ⟨_, _, Tryz.func97, rfl, by kernel_rfl⟩
theorem tf80 : TFn Tryz.prog 80 := ⟨_, _, Tryz.func80, rfl, by kernel_rfl⟩
theorem tf54 : TFn Tryz.prog 54 := ⟨_, _, Tryz.func54, rfl, by kernel_rfl⟩
theorem tA74 : TAgg Tryz.prog 74 6 := ⟨by kernel_rfl, by kernel_rfl⟩
theorem tf83 : TFn Tryz.prog 83 := ⟨_, _, Tryz.func83, rfl, by kernel_rfl⟩
theorem tZ32 : TZero Tryz.prog 32 3 (Value.agg #[(Value.int .i64 0), (Value.slice none 0 0), (Value.slice none 0 0)]) := by unfold TZero; kernel_rfl
theorem tA32 : TAgg Tryz.prog 32 3 := ⟨by kernel_rfl, by kernel_rfl⟩
theorem tf63 : TFn Tryz.prog 63 := ⟨_, _, Tryz.func63, rfl, by kernel_rfl⟩
theorem tf62 : TFn Tryz.prog 62 := ⟨_, _, Tryz.func62, rfl, by kernel_rfl⟩
theorem tf64 : TFn Tryz.prog 64 := ⟨_, _, Tryz.func64, rfl, by kernel_rfl⟩
theorem tf29 : TFn Tryz.prog 29 := ⟨_, _, Tryz.func29, rfl, by kernel_rfl⟩
theorem tf8 : TFn Tryz.prog 8 := ⟨_, _, Tryz.func8, rfl, by kernel_rfl⟩
theorem tF32_0 : TFld Tryz.prog 32 0 0 := by unfold TFld; kernel_rfl
theorem tf56 : TFn Tryz.prog 56 := ⟨_, _, Tryz.func56, rfl, by kernel_rfl⟩
theorem tf86 : TFn Tryz.prog 86 := ⟨_, _, Tryz.func86, rfl, by kernel_rfl⟩
theorem tS98 : TSlice Tryz.prog 98 4 1 := ⟨by kernel_rfl, by kernel_rfl⟩
theorem tE4 : TElem Tryz.prog 4 1 1 (Value.bool false) := by unfold TElem; kernel_rfl
theorem tf109 : TFn Tryz.prog 109 := ⟨_, _, Tryz.func109, rfl, by kernel_rfl⟩
theorem tf111 : TFn Tryz.prog 111 := ⟨_, _, Tryz.func111, rfl, by kernel_rfl⟩
theorem tf146 : TFn Tryz.prog 146 := ⟨_, _, Tryz.func146, rfl, by kernel_rfl⟩
theorem tf144 : TFn Tryz.prog 144 := ⟨_, _, Tryz.func144, rfl, by kernel_rfl⟩
theorem tf138 : TFn Tryz.prog 138 := ⟨_, _, Tryz.func138, rfl, by kernel_rfl⟩
theorem tf122 : TFn Tryz.prog 122 := ⟨_, _, Tryz.func122, rfl, by kernel_rfl⟩
theorem tf108 : TFn Tryz.prog 108 := ⟨_, _, Tryz.func108, rfl, by kernel_rfl⟩
theorem tf98 : TFn Tryz.prog 98 := ⟨_, _, Tryz.func98, rfl, by kernel_rfl⟩
theorem tf99 : TFn Tryz.prog 99 := ⟨_, _, Tryz.func99, rfl, by kernel_rfl⟩
theorem tf100 : TFn Tryz.prog 100 := ⟨_, _, Tryz.func100, rfl, by kernel_rfl⟩
theorem tf84 : TFn Tryz.prog 84 := ⟨_, _, Tryz.func84, rfl, by kernel_rfl⟩
theorem tf55 : TFn Tryz.prog 55 := ⟨_, _, Tryz.func55, rfl, by kernel_rfl⟩
theorem tf24 : TFn Tryz.prog 24 := ⟨_, _, Tryz.func24, rfl, by kernel_rfl⟩
theorem tF74_0 : TFld Tryz.prog 74 0 0 := by unfold TFld; kernel_rfl
theorem tF74_1 : TFld Tryz.prog 74 1 2 := by unfold TFld; kernel_rfl
theorem tF79_0 : TFld Tryz.prog 79 0 0 := by unfold TFld; kernel_rfl
theorem tf65 : TFn Tryz.prog 65 := ⟨_, _, Tryz.func65, rfl, by kernel_rfl⟩
theorem tf30 : TFn Tryz.prog 30 := ⟨_, _, Tryz.func30, rfl, by kernel_rfl⟩
theorem tf9 : TFn Tryz.prog 9 := ⟨_, _, Tryz.func9, rfl, by kernel_rfl⟩
theorem tf68 : TFn Tryz.prog 68 := ⟨_, _, Tryz.func68, rfl, by kernel_rfl⟩
theorem tf32 : TFn Tryz.prog 32 := ⟨_, _, Tryz.func32, rfl, by kernel_rfl⟩
theorem tF32_1 : TFld Tryz.prog 32 1 2 := by unfold TFld; kernel_rfl
theorem tf33 : TFn Tryz.prog 33 := ⟨_, _, Tryz.func33, rfl, by kernel_rfl⟩
theorem tf10 : TFn Tryz.prog 10 := ⟨_, _, Tryz.func10, rfl, by kernel_rfl⟩
theorem tF74_2 : TFld Tryz.prog 74 2 5 := by unfold TFld; kernel_rfl
theorem tf57 : TFn Tryz.prog 57 := ⟨_, _, Tryz.func57, rfl, by kernel_rfl⟩
theorem tf25 : TFn Tryz.prog 25 := ⟨_, _, Tryz.func25, rfl, by kernel_rfl⟩


end Go.Proofs.YtlpkbkbjohhleaaGreat
