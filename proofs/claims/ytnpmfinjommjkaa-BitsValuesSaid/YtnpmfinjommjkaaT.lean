/- What the steps ask of this program's types and functions: sizes, zero values, which functions have bodies of their own. -/
import Derived.Test.YtnpmfinjommjkaaProg
import Derived.Test.YtnpmfinjommjkaaSx
namespace Go.Proofs.Ytnpmfinjommjkaa.T
open Go Sx
theorem sz3 : Sz Try.prog 3 1 := by unfold Sz; kernel_rfl
theorem ag3 : Ag Try.prog 3 false := by unfold Ag; kernel_rfl
theorem by3 : (Try.prog.info? 3).map (·.bytes) = some 8 := by kernel_rfl
theorem zr3 : Zr Try.prog 3 [(.int .i64 0)] := by unfold Zr; kernel_rfl
theorem sz4 : Sz Try.prog 4 1 := by unfold Sz; kernel_rfl
theorem ag4 : Ag Try.prog 4 false := by unfold Ag; kernel_rfl
theorem by4 : (Try.prog.info? 4).map (·.bytes) = some 1 := by kernel_rfl
theorem zr4 : Zr Try.prog 4 [(.bool false)] := by unfold Zr; kernel_rfl
theorem sz23 : Sz Try.prog 23 1 := by unfold Sz; kernel_rfl
theorem ag23 : Ag Try.prog 23 false := by unfold Ag; kernel_rfl
theorem by23 : (Try.prog.info? 23).map (·.bytes) = some 4 := by kernel_rfl
theorem zr23 : Zr Try.prog 23 [(.int .u32 0)] := by unfold Zr; kernel_rfl
theorem sz35 : Sz Try.prog 35 1 := by unfold Sz; kernel_rfl
theorem ag35 : Ag Try.prog 35 false := by unfold Ag; kernel_rfl
theorem by35 : (Try.prog.info? 35).map (·.bytes) = some 4 := by kernel_rfl
theorem zr35 : Zr Try.prog 35 [(.float .f32 0)] := by unfold Zr; kernel_rfl
theorem sz40 : Sz Try.prog 40 1 := by unfold Sz; kernel_rfl
theorem ag40 : Ag Try.prog 40 false := by unfold Ag; kernel_rfl
theorem by40 : (Try.prog.info? 40).map (·.bytes) = some 8 := by kernel_rfl
theorem zr40 : Zr Try.prog 40 [(.float .f64 0)] := by unfold Zr; kernel_rfl
theorem sz43 : Sz Try.prog 43 3 := by unfold Sz; kernel_rfl
theorem ag43 : Ag Try.prog 43 true := by unfold Ag; kernel_rfl
theorem by43 : (Try.prog.info? 43).map (·.bytes) = some 24 := by kernel_rfl
theorem zr43 : Zr Try.prog 43 [(.bool false), (.int .i64 0), (.int .i64 0)] := by unfold Zr; kernel_rfl
theorem sz47 : Sz Try.prog 47 1 := by unfold Sz; kernel_rfl
theorem ag47 : Ag Try.prog 47 false := by unfold Ag; kernel_rfl
theorem by47 : (Try.prog.info? 47).map (·.bytes) = some 8 := by kernel_rfl
theorem zr47 : Zr Try.prog 47 [(.int .u64 0)] := by unfold Zr; kernel_rfl
theorem sfs43 : Sfs Try.prog 43 [(4, 0), (3, 1), (3, 2)] := ⟨by kernel_rfl, by kernel_rfl, by kernel_rfl, by kernel_rfl, by kernel_rfl⟩
theorem own10 : Own Try.prog 10 := ⟨_, Try.func10, by kernel_rfl, rfl⟩
theorem own11 : Own Try.prog 11 := ⟨_, Try.func11, by kernel_rfl, rfl⟩
theorem own12 : Own Try.prog 12 := ⟨_, Try.func12, by kernel_rfl, rfl⟩
theorem own13 : Own Try.prog 13 := ⟨_, Try.func13, by kernel_rfl, rfl⟩
theorem own14 : Own Try.prog 14 := ⟨_, Try.func14, by kernel_rfl, rfl⟩
theorem own15 : Own Try.prog 15 := ⟨_, Try.func15, by kernel_rfl, rfl⟩
theorem own16 : Own Try.prog 16 := ⟨_, Try.func16, by kernel_rfl, rfl⟩
theorem own17 : Own Try.prog 17 := ⟨_, Try.func17, by kernel_rfl, rfl⟩
theorem own18 : Own Try.prog 18 := ⟨_, Try.func18, by kernel_rfl, rfl⟩
theorem own19 : Own Try.prog 19 := ⟨_, Try.func19, by kernel_rfl, rfl⟩
theorem own20 : Own Try.prog 20 := ⟨_, Try.func20, by kernel_rfl, rfl⟩
theorem own21 : Own Try.prog 21 := ⟨_, Try.func21, by kernel_rfl, rfl⟩
theorem own22 : Own Try.prog 22 := ⟨_, Try.func22, by kernel_rfl, rfl⟩
theorem own23 : Own Try.prog 23 := ⟨_, Try.func23, by kernel_rfl, rfl⟩
theorem own24 : Own Try.prog 24 := ⟨_, Try.func24, by kernel_rfl, rfl⟩
theorem own25 : Own Try.prog 25 := ⟨_, Try.func25, by kernel_rfl, rfl⟩
theorem own26 : Own Try.prog 26 := ⟨_, Try.func26, by kernel_rfl, rfl⟩
theorem own27 : Own Try.prog 27 := ⟨_, Try.func27, by kernel_rfl, rfl⟩
theorem own28 : Own Try.prog 28 := ⟨_, Try.func28, by kernel_rfl, rfl⟩
theorem own29 : Own Try.prog 29 := ⟨_, Try.func29, by kernel_rfl, rfl⟩
theorem own30 : Own Try.prog 30 := ⟨_, Try.func30, by kernel_rfl, rfl⟩
theorem own31 : Own Try.prog 31 := ⟨_, Try.func31, by kernel_rfl, rfl⟩
theorem own32 : Own Try.prog 32 := ⟨_, Try.func32, by kernel_rfl, rfl⟩
theorem own34 : Own Try.prog 34 := ⟨_, Try.func34, by kernel_rfl, rfl⟩
theorem own35 : Own Try.prog 35 := ⟨_, Try.func35, by kernel_rfl, rfl⟩
theorem own36 : Own Try.prog 36 := ⟨_, Try.func36, by kernel_rfl, rfl⟩
theorem own37 : Own Try.prog 37 := ⟨_, Try.func37, by kernel_rfl, rfl⟩
theorem own38 : Own Try.prog 38 := ⟨_, Try.func38, by kernel_rfl, rfl⟩
theorem own39 : Own Try.prog 39 := ⟨_, Try.func39, by kernel_rfl, rfl⟩
theorem own40 : Own Try.prog 40 := ⟨_, Try.func40, by kernel_rfl, rfl⟩
theorem own41 : Own Try.prog 41 := ⟨_, Try.func41, by kernel_rfl, rfl⟩
theorem own42 : Own Try.prog 42 := ⟨_, Try.func42, by kernel_rfl, rfl⟩
theorem own43 : Own Try.prog 43 := ⟨_, Try.func43, by kernel_rfl, rfl⟩
theorem own44 : Own Try.prog 44 := ⟨_, Try.func44, by kernel_rfl, rfl⟩
theorem own46 : Own Try.prog 46 := ⟨_, Try.func46, by kernel_rfl, rfl⟩
theorem own47 : Own Try.prog 47 := ⟨_, Try.func47, by kernel_rfl, rfl⟩
theorem own48 : Own Try.prog 48 := ⟨_, Try.func48, by kernel_rfl, rfl⟩
theorem own49 : Own Try.prog 49 := ⟨_, Try.func49, by kernel_rfl, rfl⟩
theorem own54 : Own Try.prog 54 := ⟨_, Try.func54, by kernel_rfl, rfl⟩
theorem ext33 : Pex Try.prog 33 Extern.MathFloatBits.float32frombits := ⟨_, Try.func33, by kernel_rfl, by kernel_rfl, by kernel_rfl, by kernel_rfl⟩
theorem ext50 : Pex Try.prog 50 Extern.MathFloatBits.float64bits := ⟨_, Try.func50, by kernel_rfl, by kernel_rfl, by kernel_rfl, by kernel_rfl⟩
theorem ext53 : Pex Try.prog 53 Extern.MathFloatBits.float64frombits := ⟨_, Try.func53, by kernel_rfl, by kernel_rfl, by kernel_rfl, by kernel_rfl⟩
theorem mixed : Try.prog.follows .mixedOrders = true := by kernel_rfl
end Go.Proofs.Ytnpmfinjommjkaa.T
