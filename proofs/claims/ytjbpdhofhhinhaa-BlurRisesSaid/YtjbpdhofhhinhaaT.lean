/- What the steps ask of this program's types and functions: sizes, zero values, which functions have bodies of their own. -/
import Derived.Test.YtjbpdhofhhinhaaProg
import Derived.Test.YtjbpdhofhhinhaaSx
namespace Go.Proofs.Ytjbpdhofhhinhaa.T
open Go Sx
theorem sz3 : Sz Try.prog 3 1 := by unfold Sz; kernel_rfl
theorem ag3 : Ag Try.prog 3 false := by unfold Ag; kernel_rfl
theorem by3 : (Try.prog.info? 3).map (·.bytes) = some 8 := by kernel_rfl
theorem zr3 : Zr Try.prog 3 [(.int .i64 0)] := by unfold Zr; kernel_rfl
theorem sz4 : Sz Try.prog 4 1 := by unfold Sz; kernel_rfl
theorem ag4 : Ag Try.prog 4 false := by unfold Ag; kernel_rfl
theorem by4 : (Try.prog.info? 4).map (·.bytes) = some 1 := by kernel_rfl
theorem zr4 : Zr Try.prog 4 [(.bool false)] := by unfold Zr; kernel_rfl
theorem sz24 : Sz Try.prog 24 1 := by unfold Sz; kernel_rfl
theorem ag24 : Ag Try.prog 24 false := by unfold Ag; kernel_rfl
theorem by24 : (Try.prog.info? 24).map (·.bytes) = some 24 := by kernel_rfl
theorem zr24 : Zr Try.prog 24 [(.slice none 0 0)] := by unfold Zr; kernel_rfl
theorem sz25 : Sz Try.prog 25 1 := by unfold Sz; kernel_rfl
theorem ag25 : Ag Try.prog 25 false := by unfold Ag; kernel_rfl
theorem by25 : (Try.prog.info? 25).map (·.bytes) = some 24 := by kernel_rfl
theorem zr25 : Zr Try.prog 25 [(.slice none 0 0)] := by unfold Zr; kernel_rfl
theorem sz26 : Sz Try.prog 26 1 := by unfold Sz; kernel_rfl
theorem ag26 : Ag Try.prog 26 false := by unfold Ag; kernel_rfl
theorem by26 : (Try.prog.info? 26).map (·.bytes) = some 24 := by kernel_rfl
theorem zr26 : Zr Try.prog 26 [(.slice none 0 0)] := by unfold Zr; kernel_rfl
theorem sz27 : Sz Try.prog 27 1 := by unfold Sz; kernel_rfl
theorem ag27 : Ag Try.prog 27 false := by unfold Ag; kernel_rfl
theorem by27 : (Try.prog.info? 27).map (·.bytes) = some 24 := by kernel_rfl
theorem zr27 : Zr Try.prog 27 [(.slice none 0 0)] := by unfold Zr; kernel_rfl
theorem sz28 : Sz Try.prog 28 1 := by unfold Sz; kernel_rfl
theorem ag28 : Ag Try.prog 28 false := by unfold Ag; kernel_rfl
theorem by28 : (Try.prog.info? 28).map (·.bytes) = some 24 := by kernel_rfl
theorem zr28 : Zr Try.prog 28 [(.slice none 0 0)] := by unfold Zr; kernel_rfl
theorem sz29 : Sz Try.prog 29 4 := by unfold Sz; kernel_rfl
theorem ag29 : Ag Try.prog 29 true := by unfold Ag; kernel_rfl
theorem by29 : (Try.prog.info? 29).map (·.bytes) = some 96 := by kernel_rfl
theorem zr29 : Zr Try.prog 29 [(.slice none 0 0), (.slice none 0 0), (.slice none 0 0), (.slice none 0 0)] := by unfold Zr; kernel_rfl
theorem sz31 : Sz Try.prog 31 8 := by unfold Sz; kernel_rfl
theorem ag31 : Ag Try.prog 31 true := by unfold Ag; kernel_rfl
theorem by31 : (Try.prog.info? 31).map (·.bytes) = some 192 := by kernel_rfl
theorem zr31 : Zr Try.prog 31 [(.slice none 0 0), (.slice none 0 0), (.slice none 0 0), (.slice none 0 0), (.slice none 0 0), (.slice none 0 0), (.slice none 0 0), (.slice none 0 0)] := by unfold Zr; kernel_rfl
theorem sz41 : Sz Try.prog 41 1 := by unfold Sz; kernel_rfl
theorem ag41 : Ag Try.prog 41 false := by unfold Ag; kernel_rfl
theorem by41 : (Try.prog.info? 41).map (·.bytes) = some 24 := by kernel_rfl
theorem zr41 : Zr Try.prog 41 [(.slice none 0 0)] := by unfold Zr; kernel_rfl
theorem sz43 : Sz Try.prog 43 3 := by unfold Sz; kernel_rfl
theorem ag43 : Ag Try.prog 43 true := by unfold Ag; kernel_rfl
theorem by43 : (Try.prog.info? 43).map (·.bytes) = some 40 := by kernel_rfl
theorem zr43 : Zr Try.prog 43 [(.int .i64 0), (.int .i64 0), (.slice none 0 0)] := by unfold Zr; kernel_rfl
theorem sz46 : Sz Try.prog 46 8 := by unfold Sz; kernel_rfl
theorem ag46 : Ag Try.prog 46 true := by unfold Ag; kernel_rfl
theorem by46 : (Try.prog.info? 46).map (·.bytes) = some 192 := by kernel_rfl
theorem zr46 : Zr Try.prog 46 [(.slice none 0 0), (.slice none 0 0), (.slice none 0 0), (.slice none 0 0), (.slice none 0 0), (.slice none 0 0), (.slice none 0 0), (.slice none 0 0)] := by unfold Zr; kernel_rfl
theorem sz61 : Sz Try.prog 61 1 := by unfold Sz; kernel_rfl
theorem ag61 : Ag Try.prog 61 false := by unfold Ag; kernel_rfl
theorem by61 : (Try.prog.info? 61).map (·.bytes) = some 8 := by kernel_rfl
theorem zr61 : Zr Try.prog 61 [(.float .f64 0)] := by unfold Zr; kernel_rfl
theorem sz63 : Sz Try.prog 63 1 := by unfold Sz; kernel_rfl
theorem ag63 : Ag Try.prog 63 false := by unfold Ag; kernel_rfl
theorem by63 : (Try.prog.info? 63).map (·.bytes) = some 4 := by kernel_rfl
theorem zr63 : Zr Try.prog 63 [(.int .u32 0)] := by unfold Zr; kernel_rfl
theorem sz96 : Sz Try.prog 96 0 := by unfold Sz; kernel_rfl
theorem ag96 : Ag Try.prog 96 true := by unfold Ag; kernel_rfl
theorem by96 : (Try.prog.info? 96).map (·.bytes) = some 0 := by kernel_rfl
theorem zr96 : Zr Try.prog 96 [] := by unfold Zr; kernel_rfl
theorem sz98 : Sz Try.prog 98 1 := by unfold Sz; kernel_rfl
theorem ag98 : Ag Try.prog 98 false := by unfold Ag; kernel_rfl
theorem by98 : (Try.prog.info? 98).map (·.bytes) = some 4 := by kernel_rfl
theorem zr98 : Zr Try.prog 98 [(.float .f32 0)] := by unfold Zr; kernel_rfl
theorem sz101 : Sz Try.prog 101 1 := by unfold Sz; kernel_rfl
theorem ag101 : Ag Try.prog 101 false := by unfold Ag; kernel_rfl
theorem by101 : (Try.prog.info? 101).map (·.bytes) = some 8 := by kernel_rfl
theorem zr101 : Zr Try.prog 101 [.nilFunc] := by unfold Zr; kernel_rfl
theorem sz103 : Sz Try.prog 103 3 := by unfold Sz; kernel_rfl
theorem ag103 : Ag Try.prog 103 true := by unfold Ag; kernel_rfl
theorem by103 : (Try.prog.info? 103).map (·.bytes) = some 24 := by kernel_rfl
theorem zr103 : Zr Try.prog 103 [(.int .i64 0), (.int .i64 0), .nilFunc] := by unfold Zr; kernel_rfl
theorem sz108 : Sz Try.prog 108 7 := by unfold Sz; kernel_rfl
theorem ag108 : Ag Try.prog 108 true := by unfold Ag; kernel_rfl
theorem by108 : (Try.prog.info? 108).map (·.bytes) = some 72 := by kernel_rfl
theorem zr108 : Zr Try.prog 108 [(.int .i64 0), (.int .i64 0), (.slice none 0 0), (.int .i64 0), (.int .i64 0), (.int .i64 0), (.bool false)] := by unfold Zr; kernel_rfl
theorem sz116 : Sz Try.prog 116 3 := by unfold Sz; kernel_rfl
theorem ag116 : Ag Try.prog 116 true := by unfold Ag; kernel_rfl
theorem by116 : (Try.prog.info? 116).map (·.bytes) = some 24 := by kernel_rfl
theorem zr116 : Zr Try.prog 116 [(.bool false), (.int .i64 0), (.int .i64 0)] := by unfold Zr; kernel_rfl
theorem sfs116 : Sfs Try.prog 116 [(4, 0), (3, 1), (3, 2)] := ⟨by kernel_rfl, by kernel_rfl, by kernel_rfl, by kernel_rfl, by kernel_rfl⟩
theorem own12 : Own Try.prog 12 := ⟨_, Try.func12, by kernel_rfl, rfl⟩
theorem own13 : Own Try.prog 13 := ⟨_, Try.func13, by kernel_rfl, rfl⟩
theorem own14 : Own Try.prog 14 := ⟨_, Try.func14, by kernel_rfl, rfl⟩
theorem own15 : Own Try.prog 15 := ⟨_, Try.func15, by kernel_rfl, rfl⟩
theorem own16 : Own Try.prog 16 := ⟨_, Try.func16, by kernel_rfl, rfl⟩
theorem own17 : Own Try.prog 17 := ⟨_, Try.func17, by kernel_rfl, rfl⟩
theorem own18 : Own Try.prog 18 := ⟨_, Try.func18, by kernel_rfl, rfl⟩
theorem own19 : Own Try.prog 19 := ⟨_, Try.func19, by kernel_rfl, rfl⟩
theorem own20 : Own Try.prog 20 := ⟨_, Try.func20, by kernel_rfl, rfl⟩
theorem own21 : Own Try.prog 21 := ⟨_, Try.func21, by kernel_rfl, rfl⟩
theorem own22 : Own Try.prog 22 := ⟨_, Try.func22, by kernel_rfl, rfl⟩
theorem own23 : Own Try.prog 23 := ⟨_, Try.func23, by kernel_rfl, rfl⟩
theorem own24 : Own Try.prog 24 := ⟨_, Try.func24, by kernel_rfl, rfl⟩
theorem own25 : Own Try.prog 25 := ⟨_, Try.func25, by kernel_rfl, rfl⟩
theorem own26 : Own Try.prog 26 := ⟨_, Try.func26, by kernel_rfl, rfl⟩
theorem own27 : Own Try.prog 27 := ⟨_, Try.func27, by kernel_rfl, rfl⟩
theorem own28 : Own Try.prog 28 := ⟨_, Try.func28, by kernel_rfl, rfl⟩
theorem own29 : Own Try.prog 29 := ⟨_, Try.func29, by kernel_rfl, rfl⟩
theorem own30 : Own Try.prog 30 := ⟨_, Try.func30, by kernel_rfl, rfl⟩
theorem own31 : Own Try.prog 31 := ⟨_, Try.func31, by kernel_rfl, rfl⟩
theorem own32 : Own Try.prog 32 := ⟨_, Try.func32, by kernel_rfl, rfl⟩
theorem own35 : Own Try.prog 35 := ⟨_, Try.func35, by kernel_rfl, rfl⟩
theorem own36 : Own Try.prog 36 := ⟨_, Try.func36, by kernel_rfl, rfl⟩
theorem own37 : Own Try.prog 37 := ⟨_, Try.func37, by kernel_rfl, rfl⟩
theorem own38 : Own Try.prog 38 := ⟨_, Try.func38, by kernel_rfl, rfl⟩
theorem own39 : Own Try.prog 39 := ⟨_, Try.func39, by kernel_rfl, rfl⟩
theorem own40 : Own Try.prog 40 := ⟨_, Try.func40, by kernel_rfl, rfl⟩
theorem own41 : Own Try.prog 41 := ⟨_, Try.func41, by kernel_rfl, rfl⟩
theorem own42 : Own Try.prog 42 := ⟨_, Try.func42, by kernel_rfl, rfl⟩
theorem own43 : Own Try.prog 43 := ⟨_, Try.func43, by kernel_rfl, rfl⟩
theorem own44 : Own Try.prog 44 := ⟨_, Try.func44, by kernel_rfl, rfl⟩
theorem own45 : Own Try.prog 45 := ⟨_, Try.func45, by kernel_rfl, rfl⟩
theorem own46 : Own Try.prog 46 := ⟨_, Try.func46, by kernel_rfl, rfl⟩
theorem own47 : Own Try.prog 47 := ⟨_, Try.func47, by kernel_rfl, rfl⟩
theorem own48 : Own Try.prog 48 := ⟨_, Try.func48, by kernel_rfl, rfl⟩
theorem own49 : Own Try.prog 49 := ⟨_, Try.func49, by kernel_rfl, rfl⟩
theorem own50 : Own Try.prog 50 := ⟨_, Try.func50, by kernel_rfl, rfl⟩
theorem own51 : Own Try.prog 51 := ⟨_, Try.func51, by kernel_rfl, rfl⟩
theorem own52 : Own Try.prog 52 := ⟨_, Try.func52, by kernel_rfl, rfl⟩
theorem own53 : Own Try.prog 53 := ⟨_, Try.func53, by kernel_rfl, rfl⟩
theorem own54 : Own Try.prog 54 := ⟨_, Try.func54, by kernel_rfl, rfl⟩
theorem own56 : Own Try.prog 56 := ⟨_, Try.func56, by kernel_rfl, rfl⟩
theorem own57 : Own Try.prog 57 := ⟨_, Try.func57, by kernel_rfl, rfl⟩
theorem own58 : Own Try.prog 58 := ⟨_, Try.func58, by kernel_rfl, rfl⟩
theorem own59 : Own Try.prog 59 := ⟨_, Try.func59, by kernel_rfl, rfl⟩
theorem own60 : Own Try.prog 60 := ⟨_, Try.func60, by kernel_rfl, rfl⟩
theorem own61 : Own Try.prog 61 := ⟨_, Try.func61, by kernel_rfl, rfl⟩
theorem own62 : Own Try.prog 62 := ⟨_, Try.func62, by kernel_rfl, rfl⟩
theorem own63 : Own Try.prog 63 := ⟨_, Try.func63, by kernel_rfl, rfl⟩
theorem own64 : Own Try.prog 64 := ⟨_, Try.func64, by kernel_rfl, rfl⟩
theorem own65 : Own Try.prog 65 := ⟨_, Try.func65, by kernel_rfl, rfl⟩
theorem own67 : Own Try.prog 67 := ⟨_, Try.func67, by kernel_rfl, rfl⟩
theorem own68 : Own Try.prog 68 := ⟨_, Try.func68, by kernel_rfl, rfl⟩
theorem own69 : Own Try.prog 69 := ⟨_, Try.func69, by kernel_rfl, rfl⟩
theorem own70 : Own Try.prog 70 := ⟨_, Try.func70, by kernel_rfl, rfl⟩
theorem own71 : Own Try.prog 71 := ⟨_, Try.func71, by kernel_rfl, rfl⟩
theorem own88 : Own Try.prog 88 := ⟨_, Try.func88, by kernel_rfl, rfl⟩
theorem ext55 : Pex Try.prog 55 Extern.MathFloatBits.float32frombits := ⟨_, Try.func55, by kernel_rfl, by kernel_rfl, by kernel_rfl, by kernel_rfl⟩
theorem ext66 : Pex Try.prog 66 Extern.MathFloatBits.float32bits := ⟨_, Try.func66, by kernel_rfl, by kernel_rfl, by kernel_rfl, by kernel_rfl⟩
theorem mth88 (x s0 : Value) (w : World) : (Go.invoke (.fn (.method "halide/blur.at") #[]) (#[.iface 108 x] ++ [s0].toArray)).run Try.prog w = .ok (.enter 88 #[x, s0]) w := by kernel_rfl
theorem mixed : Try.prog.follows .mixedOrders = true := by kernel_rfl
end Go.Proofs.Ytjbpdhofhhinhaa.T
