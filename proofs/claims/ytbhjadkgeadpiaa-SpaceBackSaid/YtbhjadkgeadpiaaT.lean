/- What the steps ask of this program's types and functions: sizes, zero values, which functions have bodies of their own. -/
import Derived.Test.YtbhjadkgeadpiaaProg
import Derived.Test.YtbhjadkgeadpiaaSx
namespace Go.Proofs.Ytbhjadkgeadpiaa.T
open Go Sx
theorem sz2 : Sz Try.prog 2 1 := by unfold Sz; kernel_rfl
theorem ag2 : Ag Try.prog 2 false := by unfold Ag; kernel_rfl
theorem by2 : (Try.prog.info? 2).map (·.bytes) = some 8 := by kernel_rfl
theorem zr2 : Zr Try.prog 2 [(.int .i64 0)] := by unfold Zr; kernel_rfl
theorem sz3 : Sz Try.prog 3 1 := by unfold Sz; kernel_rfl
theorem ag3 : Ag Try.prog 3 false := by unfold Ag; kernel_rfl
theorem by3 : (Try.prog.info? 3).map (·.bytes) = some 8 := by kernel_rfl
theorem zr3 : Zr Try.prog 3 [(.int .i64 0)] := by unfold Zr; kernel_rfl
theorem sz4 : Sz Try.prog 4 1 := by unfold Sz; kernel_rfl
theorem ag4 : Ag Try.prog 4 false := by unfold Ag; kernel_rfl
theorem by4 : (Try.prog.info? 4).map (·.bytes) = some 1 := by kernel_rfl
theorem zr4 : Zr Try.prog 4 [(.bool false)] := by unfold Zr; kernel_rfl
theorem sz21 : Sz Try.prog 21 1 := by unfold Sz; kernel_rfl
theorem ag21 : Ag Try.prog 21 false := by unfold Ag; kernel_rfl
theorem by21 : (Try.prog.info? 21).map (·.bytes) = some 4 := by kernel_rfl
theorem zr21 : Zr Try.prog 21 [(.int .i32 0)] := by unfold Zr; kernel_rfl
theorem sz23 : Sz Try.prog 23 1 := by unfold Sz; kernel_rfl
theorem ag23 : Ag Try.prog 23 false := by unfold Ag; kernel_rfl
theorem by23 : (Try.prog.info? 23).map (·.bytes) = some 4 := by kernel_rfl
theorem zr23 : Zr Try.prog 23 [(.int .u32 0)] := by unfold Zr; kernel_rfl
theorem sz25 : Sz Try.prog 25 1 := by unfold Sz; kernel_rfl
theorem ag25 : Ag Try.prog 25 false := by unfold Ag; kernel_rfl
theorem by25 : (Try.prog.info? 25).map (·.bytes) = some 8 := by kernel_rfl
theorem zr25 : Zr Try.prog 25 [.nilFunc] := by unfold Zr; kernel_rfl
theorem sz36 : Sz Try.prog 36 1 := by unfold Sz; kernel_rfl
theorem ag36 : Ag Try.prog 36 false := by unfold Ag; kernel_rfl
theorem by36 : (Try.prog.info? 36).map (·.bytes) = some 24 := by kernel_rfl
theorem zr36 : Zr Try.prog 36 [(.slice none 0 0)] := by unfold Zr; kernel_rfl
theorem sz38 : Sz Try.prog 38 5 := by unfold Sz; kernel_rfl
theorem ag38 : Ag Try.prog 38 true := by unfold Ag; kernel_rfl
theorem by38 : (Try.prog.info? 38).map (·.bytes) = some 56 := by kernel_rfl
theorem zr38 : Zr Try.prog 38 [(.int .i64 0), (.bool false), (.slice none 0 0), (.int .i64 0), (.bool false)] := by unfold Zr; kernel_rfl
theorem sz50 : Sz Try.prog 50 1 := by unfold Sz; kernel_rfl
theorem ag50 : Ag Try.prog 50 false := by unfold Ag; kernel_rfl
theorem by50 : (Try.prog.info? 50).map (·.bytes) = some 8 := by kernel_rfl
theorem zr50 : Zr Try.prog 50 [(.float .f64 0)] := by unfold Zr; kernel_rfl
theorem sz61 : Sz Try.prog 61 3 := by unfold Sz; kernel_rfl
theorem ag61 : Ag Try.prog 61 true := by unfold Ag; kernel_rfl
theorem by61 : (Try.prog.info? 61).map (·.bytes) = some 12 := by kernel_rfl
theorem zr61 : Zr Try.prog 61 [(.int .u32 0), (.int .u32 0), (.int .u32 0)] := by unfold Zr; kernel_rfl
theorem sz62 : Sz Try.prog 62 1 := by unfold Sz; kernel_rfl
theorem ag62 : Ag Try.prog 62 false := by unfold Ag; kernel_rfl
theorem by62 : (Try.prog.info? 62).map (·.bytes) = some 8 := by kernel_rfl
theorem zr62 : Zr Try.prog 62 [.nilFunc] := by unfold Zr; kernel_rfl
theorem sz64 : Sz Try.prog 64 2 := by unfold Sz; kernel_rfl
theorem ag64 : Ag Try.prog 64 true := by unfold Ag; kernel_rfl
theorem by64 : (Try.prog.info? 64).map (·.bytes) = some 16 := by kernel_rfl
theorem zr64 : Zr Try.prog 64 [.nilFunc, .nilFunc] := by unfold Zr; kernel_rfl
theorem sz67 : Sz Try.prog 67 2 := by unfold Sz; kernel_rfl
theorem ag67 : Ag Try.prog 67 true := by unfold Ag; kernel_rfl
theorem by67 : (Try.prog.info? 67).map (·.bytes) = some 16 := by kernel_rfl
theorem zr67 : Zr Try.prog 67 [(.int .i64 0), (.int .i64 0)] := by unfold Zr; kernel_rfl
theorem sz70 : Sz Try.prog 70 1 := by unfold Sz; kernel_rfl
theorem ag70 : Ag Try.prog 70 false := by unfold Ag; kernel_rfl
theorem by70 : (Try.prog.info? 70).map (·.bytes) = some 8 := by kernel_rfl
theorem zr70 : Zr Try.prog 70 [(.int .u64 0)] := by unfold Zr; kernel_rfl
theorem sz76 : Sz Try.prog 76 1 := by unfold Sz; kernel_rfl
theorem ag76 : Ag Try.prog 76 false := by unfold Ag; kernel_rfl
theorem by76 : (Try.prog.info? 76).map (·.bytes) = some 4 := by kernel_rfl
theorem zr76 : Zr Try.prog 76 [(.float .f32 0)] := by unfold Zr; kernel_rfl
theorem own13 : Own Try.prog 13 := ⟨_, Try.func13, by kernel_rfl, rfl⟩
theorem own14 : Own Try.prog 14 := ⟨_, Try.func14, by kernel_rfl, rfl⟩
theorem own16 : Own Try.prog 16 := ⟨_, Try.func16, by kernel_rfl, rfl⟩
theorem own18 : Own Try.prog 18 := ⟨_, Try.func18, by kernel_rfl, rfl⟩
theorem own19 : Own Try.prog 19 := ⟨_, Try.func19, by kernel_rfl, rfl⟩
theorem own20 : Own Try.prog 20 := ⟨_, Try.func20, by kernel_rfl, rfl⟩
theorem own21 : Own Try.prog 21 := ⟨_, Try.func21, by kernel_rfl, rfl⟩
theorem own22 : Own Try.prog 22 := ⟨_, Try.func22, by kernel_rfl, rfl⟩
theorem own23 : Own Try.prog 23 := ⟨_, Try.func23, by kernel_rfl, rfl⟩
theorem own24 : Own Try.prog 24 := ⟨_, Try.func24, by kernel_rfl, rfl⟩
theorem own25 : Own Try.prog 25 := ⟨_, Try.func25, by kernel_rfl, rfl⟩
theorem own26 : Own Try.prog 26 := ⟨_, Try.func26, by kernel_rfl, rfl⟩
theorem own28 : Own Try.prog 28 := ⟨_, Try.func28, by kernel_rfl, rfl⟩
theorem own29 : Own Try.prog 29 := ⟨_, Try.func29, by kernel_rfl, rfl⟩
theorem own30 : Own Try.prog 30 := ⟨_, Try.func30, by kernel_rfl, rfl⟩
theorem own31 : Own Try.prog 31 := ⟨_, Try.func31, by kernel_rfl, rfl⟩
theorem own32 : Own Try.prog 32 := ⟨_, Try.func32, by kernel_rfl, rfl⟩
theorem own33 : Own Try.prog 33 := ⟨_, Try.func33, by kernel_rfl, rfl⟩
theorem own34 : Own Try.prog 34 := ⟨_, Try.func34, by kernel_rfl, rfl⟩
theorem own35 : Own Try.prog 35 := ⟨_, Try.func35, by kernel_rfl, rfl⟩
theorem own36 : Own Try.prog 36 := ⟨_, Try.func36, by kernel_rfl, rfl⟩
theorem own37 : Own Try.prog 37 := ⟨_, Try.func37, by kernel_rfl, rfl⟩
theorem own38 : Own Try.prog 38 := ⟨_, Try.func38, by kernel_rfl, rfl⟩
theorem own39 : Own Try.prog 39 := ⟨_, Try.func39, by kernel_rfl, rfl⟩
theorem own40 : Own Try.prog 40 := ⟨_, Try.func40, by kernel_rfl, rfl⟩
theorem own46 : Own Try.prog 46 := ⟨_, Try.func46, by kernel_rfl, rfl⟩
theorem own47 : Own Try.prog 47 := ⟨_, Try.func47, by kernel_rfl, rfl⟩
theorem own49 : Own Try.prog 49 := ⟨_, Try.func49, by kernel_rfl, rfl⟩
theorem own50 : Own Try.prog 50 := ⟨_, Try.func50, by kernel_rfl, rfl⟩
theorem own51 : Own Try.prog 51 := ⟨_, Try.func51, by kernel_rfl, rfl⟩
theorem own52 : Own Try.prog 52 := ⟨_, Try.func52, by kernel_rfl, rfl⟩
theorem own53 : Own Try.prog 53 := ⟨_, Try.func53, by kernel_rfl, rfl⟩
theorem own54 : Own Try.prog 54 := ⟨_, Try.func54, by kernel_rfl, rfl⟩
theorem own55 : Own Try.prog 55 := ⟨_, Try.func55, by kernel_rfl, rfl⟩
theorem own56 : Own Try.prog 56 := ⟨_, Try.func56, by kernel_rfl, rfl⟩
theorem own57 : Own Try.prog 57 := ⟨_, Try.func57, by kernel_rfl, rfl⟩
theorem own58 : Own Try.prog 58 := ⟨_, Try.func58, by kernel_rfl, rfl⟩
theorem own59 : Own Try.prog 59 := ⟨_, Try.func59, by kernel_rfl, rfl⟩
theorem own60 : Own Try.prog 60 := ⟨_, Try.func60, by kernel_rfl, rfl⟩
theorem own61 : Own Try.prog 61 := ⟨_, Try.func61, by kernel_rfl, rfl⟩
theorem own62 : Own Try.prog 62 := ⟨_, Try.func62, by kernel_rfl, rfl⟩
theorem own63 : Own Try.prog 63 := ⟨_, Try.func63, by kernel_rfl, rfl⟩
theorem own64 : Own Try.prog 64 := ⟨_, Try.func64, by kernel_rfl, rfl⟩
theorem own65 : Own Try.prog 65 := ⟨_, Try.func65, by kernel_rfl, rfl⟩
theorem own66 : Own Try.prog 66 := ⟨_, Try.func66, by kernel_rfl, rfl⟩
theorem own67 : Own Try.prog 67 := ⟨_, Try.func67, by kernel_rfl, rfl⟩
theorem own68 : Own Try.prog 68 := ⟨_, Try.func68, by kernel_rfl, rfl⟩
theorem own70 : Own Try.prog 70 := ⟨_, Try.func70, by kernel_rfl, rfl⟩
theorem own75 : Own Try.prog 75 := ⟨_, Try.func75, by kernel_rfl, rfl⟩
theorem own76 : Own Try.prog 76 := ⟨_, Try.func76, by kernel_rfl, rfl⟩
theorem own77 : Own Try.prog 77 := ⟨_, Try.func77, by kernel_rfl, rfl⟩
theorem own78 : Own Try.prog 78 := ⟨_, Try.func78, by kernel_rfl, rfl⟩
theorem own79 : Own Try.prog 79 := ⟨_, Try.func79, by kernel_rfl, rfl⟩
theorem own81 : Own Try.prog 81 := ⟨_, Try.func81, by kernel_rfl, rfl⟩
theorem own82 : Own Try.prog 82 := ⟨_, Try.func82, by kernel_rfl, rfl⟩
theorem own83 : Own Try.prog 83 := ⟨_, Try.func83, by kernel_rfl, rfl⟩
theorem own84 : Own Try.prog 84 := ⟨_, Try.func84, by kernel_rfl, rfl⟩
theorem own87 : Own Try.prog 87 := ⟨_, Try.func87, by kernel_rfl, rfl⟩
theorem own88 : Own Try.prog 88 := ⟨_, Try.func88, by kernel_rfl, rfl⟩
theorem own89 : Own Try.prog 89 := ⟨_, Try.func89, by kernel_rfl, rfl⟩
theorem own90 : Own Try.prog 90 := ⟨_, Try.func90, by kernel_rfl, rfl⟩
theorem ext48 : Pex Try.prog 48 (Extern.MathFloor.toIntegral "math.RoundToEven" .even) := ⟨_, Try.func48, by kernel_rfl, by kernel_rfl, by kernel_rfl, by kernel_rfl⟩
theorem ext69 : Pex Try.prog 69 Extern.MathFloatBits.float32frombits := ⟨_, Try.func69, by kernel_rfl, by kernel_rfl, by kernel_rfl, by kernel_rfl⟩
theorem ext71 : Pex Try.prog 71 Extern.MathFloatBits.float64bits := ⟨_, Try.func71, by kernel_rfl, by kernel_rfl, by kernel_rfl, by kernel_rfl⟩
theorem ext85 : Pex Try.prog 85 Extern.MathFloatBits.float64frombits := ⟨_, Try.func85, by kernel_rfl, by kernel_rfl, by kernel_rfl, by kernel_rfl⟩
theorem ext92 : Pex Try.prog 92 Extern.MathFloatBits.float32bits := ⟨_, Try.func92, by kernel_rfl, by kernel_rfl, by kernel_rfl, by kernel_rfl⟩
theorem mixed : Try.prog.follows .mixedOrders = true := by kernel_rfl
end Go.Proofs.Ytbhjadkgeadpiaa.T
