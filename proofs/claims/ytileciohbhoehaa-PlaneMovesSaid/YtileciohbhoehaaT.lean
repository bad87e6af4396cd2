/- What the steps ask of this program's types and functions: sizes, zero values, which functions have bodies of their own. -/
import Derived.Test.YtileciohbhoehaaProg
import Derived.Test.YtileciohbhoehaaSx
namespace Go.Proofs.Ytileciohbhoehaa.T
open Go Sx
theorem sz3 : Sz Try.prog 3 1 := by unfold Sz; kernel_rfl
theorem ag3 : Ag Try.prog 3 false := by unfold Ag; kernel_rfl
theorem by3 : (Try.prog.info? 3).map (·.bytes) = some 8 := by kernel_rfl
theorem zr3 : Zr Try.prog 3 [(.int .i64 0)] := by unfold Zr; kernel_rfl
theorem sz4 : Sz Try.prog 4 1 := by unfold Sz; kernel_rfl
theorem ag4 : Ag Try.prog 4 false := by unfold Ag; kernel_rfl
theorem by4 : (Try.prog.info? 4).map (·.bytes) = some 1 := by kernel_rfl
theorem zr4 : Zr Try.prog 4 [(.bool false)] := by unfold Zr; kernel_rfl
theorem sz30 : Sz Try.prog 30 1 := by unfold Sz; kernel_rfl
theorem ag30 : Ag Try.prog 30 false := by unfold Ag; kernel_rfl
theorem by30 : (Try.prog.info? 30).map (·.bytes) = some 24 := by kernel_rfl
theorem zr30 : Zr Try.prog 30 [(.slice none 0 0)] := by unfold Zr; kernel_rfl
theorem sz32 : Sz Try.prog 32 3 := by unfold Sz; kernel_rfl
theorem ag32 : Ag Try.prog 32 true := by unfold Ag; kernel_rfl
theorem by32 : (Try.prog.info? 32).map (·.bytes) = some 40 := by kernel_rfl
theorem zr32 : Zr Try.prog 32 [(.int .i64 0), (.int .i64 0), (.slice none 0 0)] := by unfold Zr; kernel_rfl
theorem sz34 : Sz Try.prog 34 1 := by unfold Sz; kernel_rfl
theorem ag34 : Ag Try.prog 34 false := by unfold Ag; kernel_rfl
theorem by34 : (Try.prog.info? 34).map (·.bytes) = some 24 := by kernel_rfl
theorem zr34 : Zr Try.prog 34 [(.slice none 0 0)] := by unfold Zr; kernel_rfl
theorem sz35 : Sz Try.prog 35 1 := by unfold Sz; kernel_rfl
theorem ag35 : Ag Try.prog 35 false := by unfold Ag; kernel_rfl
theorem by35 : (Try.prog.info? 35).map (·.bytes) = some 24 := by kernel_rfl
theorem zr35 : Zr Try.prog 35 [(.slice none 0 0)] := by unfold Zr; kernel_rfl
theorem sz36 : Sz Try.prog 36 1 := by unfold Sz; kernel_rfl
theorem ag36 : Ag Try.prog 36 false := by unfold Ag; kernel_rfl
theorem by36 : (Try.prog.info? 36).map (·.bytes) = some 24 := by kernel_rfl
theorem zr36 : Zr Try.prog 36 [(.slice none 0 0)] := by unfold Zr; kernel_rfl
theorem sz37 : Sz Try.prog 37 1 := by unfold Sz; kernel_rfl
theorem ag37 : Ag Try.prog 37 false := by unfold Ag; kernel_rfl
theorem by37 : (Try.prog.info? 37).map (·.bytes) = some 24 := by kernel_rfl
theorem zr37 : Zr Try.prog 37 [(.slice none 0 0)] := by unfold Zr; kernel_rfl
theorem sz38 : Sz Try.prog 38 1 := by unfold Sz; kernel_rfl
theorem ag38 : Ag Try.prog 38 false := by unfold Ag; kernel_rfl
theorem by38 : (Try.prog.info? 38).map (·.bytes) = some 24 := by kernel_rfl
theorem zr38 : Zr Try.prog 38 [(.slice none 0 0)] := by unfold Zr; kernel_rfl
theorem sz39 : Sz Try.prog 39 4 := by unfold Sz; kernel_rfl
theorem ag39 : Ag Try.prog 39 true := by unfold Ag; kernel_rfl
theorem by39 : (Try.prog.info? 39).map (·.bytes) = some 96 := by kernel_rfl
theorem zr39 : Zr Try.prog 39 [(.slice none 0 0), (.slice none 0 0), (.slice none 0 0), (.slice none 0 0)] := by unfold Zr; kernel_rfl
theorem sz41 : Sz Try.prog 41 8 := by unfold Sz; kernel_rfl
theorem ag41 : Ag Try.prog 41 true := by unfold Ag; kernel_rfl
theorem by41 : (Try.prog.info? 41).map (·.bytes) = some 192 := by kernel_rfl
theorem zr41 : Zr Try.prog 41 [(.slice none 0 0), (.slice none 0 0), (.slice none 0 0), (.slice none 0 0), (.slice none 0 0), (.slice none 0 0), (.slice none 0 0), (.slice none 0 0)] := by unfold Zr; kernel_rfl
theorem sz44 : Sz Try.prog 44 8 := by unfold Sz; kernel_rfl
theorem ag44 : Ag Try.prog 44 true := by unfold Ag; kernel_rfl
theorem by44 : (Try.prog.info? 44).map (·.bytes) = some 192 := by kernel_rfl
theorem zr44 : Zr Try.prog 44 [(.slice none 0 0), (.slice none 0 0), (.slice none 0 0), (.slice none 0 0), (.slice none 0 0), (.slice none 0 0), (.slice none 0 0), (.slice none 0 0)] := by unfold Zr; kernel_rfl
theorem sz54 : Sz Try.prog 54 4 := by unfold Sz; kernel_rfl
theorem ag54 : Ag Try.prog 54 true := by unfold Ag; kernel_rfl
theorem by54 : (Try.prog.info? 54).map (·.bytes) = some 32 := by kernel_rfl
theorem zr54 : Zr Try.prog 54 [(.int .i64 0), (.int .i64 0), (.int .i64 0), (.int .i64 0)] := by unfold Zr; kernel_rfl
theorem sz72 : Sz Try.prog 72 1 := by unfold Sz; kernel_rfl
theorem ag72 : Ag Try.prog 72 false := by unfold Ag; kernel_rfl
theorem by72 : (Try.prog.info? 72).map (·.bytes) = some 4 := by kernel_rfl
theorem zr72 : Zr Try.prog 72 [(.int .u32 0)] := by unfold Zr; kernel_rfl
theorem sz88 : Sz Try.prog 88 1 := by unfold Sz; kernel_rfl
theorem ag88 : Ag Try.prog 88 false := by unfold Ag; kernel_rfl
theorem by88 : (Try.prog.info? 88).map (·.bytes) = some 8 := by kernel_rfl
theorem zr88 : Zr Try.prog 88 [.nilFunc] := by unfold Zr; kernel_rfl
theorem sz91 : Sz Try.prog 91 3 := by unfold Sz; kernel_rfl
theorem ag91 : Ag Try.prog 91 true := by unfold Ag; kernel_rfl
theorem by91 : (Try.prog.info? 91).map (·.bytes) = some 24 := by kernel_rfl
theorem zr91 : Zr Try.prog 91 [(.int .i64 0), (.int .i64 0), .nilFunc] := by unfold Zr; kernel_rfl
theorem sfs54 : Sfs Try.prog 54 [(3, 0), (3, 1), (3, 2), (3, 3)] := ⟨by kernel_rfl, by kernel_rfl, by kernel_rfl, by kernel_rfl, by kernel_rfl⟩
theorem own13 : Own Try.prog 13 := ⟨_, Try.func13, by kernel_rfl, rfl⟩
theorem own14 : Own Try.prog 14 := ⟨_, Try.func14, by kernel_rfl, rfl⟩
theorem own15 : Own Try.prog 15 := ⟨_, Try.func15, by kernel_rfl, rfl⟩
theorem own16 : Own Try.prog 16 := ⟨_, Try.func16, by kernel_rfl, rfl⟩
theorem own17 : Own Try.prog 17 := ⟨_, Try.func17, by kernel_rfl, rfl⟩
theorem own18 : Own Try.prog 18 := ⟨_, Try.func18, by kernel_rfl, rfl⟩
theorem own19 : Own Try.prog 19 := ⟨_, Try.func19, by kernel_rfl, rfl⟩
theorem own20 : Own Try.prog 20 := ⟨_, Try.func20, by kernel_rfl, rfl⟩
theorem own21 : Own Try.prog 21 := ⟨_, Try.func21, by kernel_rfl, rfl⟩
theorem own22 : Own Try.prog 22 := ⟨_, Try.func22, by kernel_rfl, rfl⟩
theorem own23 : Own Try.prog 23 := ⟨_, Try.func23, by kernel_rfl, rfl⟩
theorem own24 : Own Try.prog 24 := ⟨_, Try.func24, by kernel_rfl, rfl⟩
theorem own25 : Own Try.prog 25 := ⟨_, Try.func25, by kernel_rfl, rfl⟩
theorem own26 : Own Try.prog 26 := ⟨_, Try.func26, by kernel_rfl, rfl⟩
theorem own27 : Own Try.prog 27 := ⟨_, Try.func27, by kernel_rfl, rfl⟩
theorem own28 : Own Try.prog 28 := ⟨_, Try.func28, by kernel_rfl, rfl⟩
theorem own29 : Own Try.prog 29 := ⟨_, Try.func29, by kernel_rfl, rfl⟩
theorem own30 : Own Try.prog 30 := ⟨_, Try.func30, by kernel_rfl, rfl⟩
theorem own31 : Own Try.prog 31 := ⟨_, Try.func31, by kernel_rfl, rfl⟩
theorem own32 : Own Try.prog 32 := ⟨_, Try.func32, by kernel_rfl, rfl⟩
theorem own33 : Own Try.prog 33 := ⟨_, Try.func33, by kernel_rfl, rfl⟩
theorem own34 : Own Try.prog 34 := ⟨_, Try.func34, by kernel_rfl, rfl⟩
theorem own35 : Own Try.prog 35 := ⟨_, Try.func35, by kernel_rfl, rfl⟩
theorem own36 : Own Try.prog 36 := ⟨_, Try.func36, by kernel_rfl, rfl⟩
theorem own37 : Own Try.prog 37 := ⟨_, Try.func37, by kernel_rfl, rfl⟩
theorem own38 : Own Try.prog 38 := ⟨_, Try.func38, by kernel_rfl, rfl⟩
theorem own39 : Own Try.prog 39 := ⟨_, Try.func39, by kernel_rfl, rfl⟩
theorem own40 : Own Try.prog 40 := ⟨_, Try.func40, by kernel_rfl, rfl⟩
theorem own41 : Own Try.prog 41 := ⟨_, Try.func41, by kernel_rfl, rfl⟩
theorem own42 : Own Try.prog 42 := ⟨_, Try.func42, by kernel_rfl, rfl⟩
theorem own43 : Own Try.prog 43 := ⟨_, Try.func43, by kernel_rfl, rfl⟩
theorem own44 : Own Try.prog 44 := ⟨_, Try.func44, by kernel_rfl, rfl⟩
theorem own45 : Own Try.prog 45 := ⟨_, Try.func45, by kernel_rfl, rfl⟩
theorem own46 : Own Try.prog 46 := ⟨_, Try.func46, by kernel_rfl, rfl⟩
theorem own47 : Own Try.prog 47 := ⟨_, Try.func47, by kernel_rfl, rfl⟩
theorem own48 : Own Try.prog 48 := ⟨_, Try.func48, by kernel_rfl, rfl⟩
theorem own49 : Own Try.prog 49 := ⟨_, Try.func49, by kernel_rfl, rfl⟩
theorem own50 : Own Try.prog 50 := ⟨_, Try.func50, by kernel_rfl, rfl⟩
theorem own51 : Own Try.prog 51 := ⟨_, Try.func51, by kernel_rfl, rfl⟩
theorem own52 : Own Try.prog 52 := ⟨_, Try.func52, by kernel_rfl, rfl⟩
theorem own53 : Own Try.prog 53 := ⟨_, Try.func53, by kernel_rfl, rfl⟩
theorem own54 : Own Try.prog 54 := ⟨_, Try.func54, by kernel_rfl, rfl⟩
theorem own55 : Own Try.prog 55 := ⟨_, Try.func55, by kernel_rfl, rfl⟩
theorem own56 : Own Try.prog 56 := ⟨_, Try.func56, by kernel_rfl, rfl⟩
theorem own57 : Own Try.prog 57 := ⟨_, Try.func57, by kernel_rfl, rfl⟩
theorem own58 : Own Try.prog 58 := ⟨_, Try.func58, by kernel_rfl, rfl⟩
theorem own59 : Own Try.prog 59 := ⟨_, Try.func59, by kernel_rfl, rfl⟩
theorem own60 : Own Try.prog 60 := ⟨_, Try.func60, by kernel_rfl, rfl⟩
theorem own61 : Own Try.prog 61 := ⟨_, Try.func61, by kernel_rfl, rfl⟩
theorem own62 : Own Try.prog 62 := ⟨_, Try.func62, by kernel_rfl, rfl⟩
theorem own63 : Own Try.prog 63 := ⟨_, Try.func63, by kernel_rfl, rfl⟩
theorem own64 : Own Try.prog 64 := ⟨_, Try.func64, by kernel_rfl, rfl⟩
theorem own65 : Own Try.prog 65 := ⟨_, Try.func65, by kernel_rfl, rfl⟩
theorem own66 : Own Try.prog 66 := ⟨_, Try.func66, by kernel_rfl, rfl⟩
theorem own67 : Own Try.prog 67 := ⟨_, Try.func67, by kernel_rfl, rfl⟩
theorem own68 : Own Try.prog 68 := ⟨_, Try.func68, by kernel_rfl, rfl⟩
theorem own69 : Own Try.prog 69 := ⟨_, Try.func69, by kernel_rfl, rfl⟩
theorem own70 : Own Try.prog 70 := ⟨_, Try.func70, by kernel_rfl, rfl⟩
theorem own71 : Own Try.prog 71 := ⟨_, Try.func71, by kernel_rfl, rfl⟩
theorem own72 : Own Try.prog 72 := ⟨_, Try.func72, by kernel_rfl, rfl⟩
theorem own73 : Own Try.prog 73 := ⟨_, Try.func73, by kernel_rfl, rfl⟩
theorem own74 : Own Try.prog 74 := ⟨_, Try.func74, by kernel_rfl, rfl⟩
theorem own75 : Own Try.prog 75 := ⟨_, Try.func75, by kernel_rfl, rfl⟩
theorem mixed : Try.prog.follows .mixedOrders = true := by kernel_rfl
end Go.Proofs.Ytileciohbhoehaa.T
