/- What the steps ask of this program's types and functions: sizes, zero values, which functions have bodies of their own. -/
import Derived.Test.YtiikkhbmhojbaaaProg
import Derived.Test.YtiikkhbmhojbaaaSx
namespace Go.Proofs.Ytiikkhbmhojbaaa.T
open Go Sx
theorem sz3 : Sz Try.prog 3 1 := by unfold Sz; kernel_rfl
theorem ag3 : Ag Try.prog 3 false := by unfold Ag; kernel_rfl
theorem by3 : (Try.prog.info? 3).map (·.bytes) = some 8 := by kernel_rfl
theorem zr3 : Zr Try.prog 3 [(.int .i64 0)] := by unfold Zr; kernel_rfl
theorem sz4 : Sz Try.prog 4 1 := by unfold Sz; kernel_rfl
theorem ag4 : Ag Try.prog 4 false := by unfold Ag; kernel_rfl
theorem by4 : (Try.prog.info? 4).map (·.bytes) = some 1 := by kernel_rfl
theorem zr4 : Zr Try.prog 4 [(.bool false)] := by unfold Zr; kernel_rfl
theorem sz23 : Sz Try.prog 23 1 := by unfold Sz; kernel_rfl
theorem ag23 : Ag Try.prog 23 false := by unfold Ag; kernel_rfl
theorem by23 : (Try.prog.info? 23).map (·.bytes) = some 24 := by kernel_rfl
theorem zr23 : Zr Try.prog 23 [(.slice none 0 0)] := by unfold Zr; kernel_rfl
theorem sz25 : Sz Try.prog 25 2 := by unfold Sz; kernel_rfl
theorem ag25 : Ag Try.prog 25 true := by unfold Ag; kernel_rfl
theorem by25 : (Try.prog.info? 25).map (·.bytes) = some 32 := by kernel_rfl
theorem zr25 : Zr Try.prog 25 [(.int .i64 0), (.slice none 0 0)] := by unfold Zr; kernel_rfl
theorem sz28 : Sz Try.prog 28 1 := by unfold Sz; kernel_rfl
theorem ag28 : Ag Try.prog 28 false := by unfold Ag; kernel_rfl
theorem by28 : (Try.prog.info? 28).map (·.bytes) = some 4 := by kernel_rfl
theorem zr28 : Zr Try.prog 28 [(.int .u32 0)] := by unfold Zr; kernel_rfl
theorem sz29 : Sz Try.prog 29 9 := by unfold Sz; kernel_rfl
theorem ag29 : Ag Try.prog 29 true := by unfold Ag; kernel_rfl
theorem by29 : (Try.prog.info? 29).map (·.bytes) = some 36 := by kernel_rfl
theorem zr29 : Zr Try.prog 29 [(.int .u32 0), (.int .u32 0), (.int .u32 0), (.int .u32 0), (.int .u32 0), (.int .u32 0), (.int .u32 0), (.int .u32 0), (.int .u32 0)] := by unfold Zr; kernel_rfl
theorem sz41 : Sz Try.prog 41 1 := by unfold Sz; kernel_rfl
theorem ag41 : Ag Try.prog 41 false := by unfold Ag; kernel_rfl
theorem by41 : (Try.prog.info? 41).map (·.bytes) = some 24 := by kernel_rfl
theorem zr41 : Zr Try.prog 41 [(.slice none 0 0)] := by unfold Zr; kernel_rfl
theorem sz43 : Sz Try.prog 43 3 := by unfold Sz; kernel_rfl
theorem ag43 : Ag Try.prog 43 true := by unfold Ag; kernel_rfl
theorem by43 : (Try.prog.info? 43).map (·.bytes) = some 40 := by kernel_rfl
theorem zr43 : Zr Try.prog 43 [(.int .i64 0), (.int .i64 0), (.slice none 0 0)] := by unfold Zr; kernel_rfl
theorem sz44 : Sz Try.prog 44 1 := by unfold Sz; kernel_rfl
theorem ag44 : Ag Try.prog 44 false := by unfold Ag; kernel_rfl
theorem by44 : (Try.prog.info? 44).map (·.bytes) = some 8 := by kernel_rfl
theorem zr44 : Zr Try.prog 44 [(.float .f64 0)] := by unfold Zr; kernel_rfl
theorem sz50 : Sz Try.prog 50 1 := by unfold Sz; kernel_rfl
theorem ag50 : Ag Try.prog 50 false := by unfold Ag; kernel_rfl
theorem by50 : (Try.prog.info? 50).map (·.bytes) = some 24 := by kernel_rfl
theorem zr50 : Zr Try.prog 50 [(.slice none 0 0)] := by unfold Zr; kernel_rfl
theorem sz51 : Sz Try.prog 51 1 := by unfold Sz; kernel_rfl
theorem ag51 : Ag Try.prog 51 false := by unfold Ag; kernel_rfl
theorem by51 : (Try.prog.info? 51).map (·.bytes) = some 24 := by kernel_rfl
theorem zr51 : Zr Try.prog 51 [(.slice none 0 0)] := by unfold Zr; kernel_rfl
theorem sz52 : Sz Try.prog 52 1 := by unfold Sz; kernel_rfl
theorem ag52 : Ag Try.prog 52 false := by unfold Ag; kernel_rfl
theorem by52 : (Try.prog.info? 52).map (·.bytes) = some 24 := by kernel_rfl
theorem zr52 : Zr Try.prog 52 [(.slice none 0 0)] := by unfold Zr; kernel_rfl
theorem sz53 : Sz Try.prog 53 1 := by unfold Sz; kernel_rfl
theorem ag53 : Ag Try.prog 53 false := by unfold Ag; kernel_rfl
theorem by53 : (Try.prog.info? 53).map (·.bytes) = some 24 := by kernel_rfl
theorem zr53 : Zr Try.prog 53 [(.slice none 0 0)] := by unfold Zr; kernel_rfl
theorem sz54 : Sz Try.prog 54 1 := by unfold Sz; kernel_rfl
theorem ag54 : Ag Try.prog 54 false := by unfold Ag; kernel_rfl
theorem by54 : (Try.prog.info? 54).map (·.bytes) = some 24 := by kernel_rfl
theorem zr54 : Zr Try.prog 54 [(.slice none 0 0)] := by unfold Zr; kernel_rfl
theorem sz55 : Sz Try.prog 55 4 := by unfold Sz; kernel_rfl
theorem ag55 : Ag Try.prog 55 true := by unfold Ag; kernel_rfl
theorem by55 : (Try.prog.info? 55).map (·.bytes) = some 96 := by kernel_rfl
theorem zr55 : Zr Try.prog 55 [(.slice none 0 0), (.slice none 0 0), (.slice none 0 0), (.slice none 0 0)] := by unfold Zr; kernel_rfl
theorem sz57 : Sz Try.prog 57 8 := by unfold Sz; kernel_rfl
theorem ag57 : Ag Try.prog 57 true := by unfold Ag; kernel_rfl
theorem by57 : (Try.prog.info? 57).map (·.bytes) = some 192 := by kernel_rfl
theorem zr57 : Zr Try.prog 57 [(.slice none 0 0), (.slice none 0 0), (.slice none 0 0), (.slice none 0 0), (.slice none 0 0), (.slice none 0 0), (.slice none 0 0), (.slice none 0 0)] := by unfold Zr; kernel_rfl
theorem sz60 : Sz Try.prog 60 8 := by unfold Sz; kernel_rfl
theorem ag60 : Ag Try.prog 60 true := by unfold Ag; kernel_rfl
theorem by60 : (Try.prog.info? 60).map (·.bytes) = some 192 := by kernel_rfl
theorem zr60 : Zr Try.prog 60 [(.slice none 0 0), (.slice none 0 0), (.slice none 0 0), (.slice none 0 0), (.slice none 0 0), (.slice none 0 0), (.slice none 0 0), (.slice none 0 0)] := by unfold Zr; kernel_rfl
theorem sz62 : Sz Try.prog 62 1 := by unfold Sz; kernel_rfl
theorem ag62 : Ag Try.prog 62 false := by unfold Ag; kernel_rfl
theorem by62 : (Try.prog.info? 62).map (·.bytes) = some 8 := by kernel_rfl
theorem zr62 : Zr Try.prog 62 [.nilFunc] := by unfold Zr; kernel_rfl
theorem sz89 : Sz Try.prog 89 1 := by unfold Sz; kernel_rfl
theorem ag89 : Ag Try.prog 89 false := by unfold Ag; kernel_rfl
theorem by89 : (Try.prog.info? 89).map (·.bytes) = some 8 := by kernel_rfl
theorem zr89 : Zr Try.prog 89 [.nilFunc] := by unfold Zr; kernel_rfl
theorem sz91 : Sz Try.prog 91 2 := by unfold Sz; kernel_rfl
theorem ag91 : Ag Try.prog 91 true := by unfold Ag; kernel_rfl
theorem by91 : (Try.prog.info? 91).map (·.bytes) = some 8 := by kernel_rfl
theorem zr91 : Zr Try.prog 91 [(.int .u32 0), (.int .u32 0)] := by unfold Zr; kernel_rfl
theorem sz92 : Sz Try.prog 92 3 := by unfold Sz; kernel_rfl
theorem ag92 : Ag Try.prog 92 true := by unfold Ag; kernel_rfl
theorem by92 : (Try.prog.info? 92).map (·.bytes) = some 24 := by kernel_rfl
theorem zr92 : Zr Try.prog 92 [(.float .f64 0), (.float .f64 0), (.float .f64 0)] := by unfold Zr; kernel_rfl
theorem sz93 : Sz Try.prog 93 9 := by unfold Sz; kernel_rfl
theorem ag93 : Ag Try.prog 93 true := by unfold Ag; kernel_rfl
theorem by93 : (Try.prog.info? 93).map (·.bytes) = some 72 := by kernel_rfl
theorem zr93 : Zr Try.prog 93 [(.float .f64 0), (.float .f64 0), (.float .f64 0), (.float .f64 0), (.float .f64 0), (.float .f64 0), (.float .f64 0), (.float .f64 0), (.float .f64 0)] := by unfold Zr; kernel_rfl
theorem sz94 : Sz Try.prog 94 3 := by unfold Sz; kernel_rfl
theorem ag94 : Ag Try.prog 94 true := by unfold Ag; kernel_rfl
theorem by94 : (Try.prog.info? 94).map (·.bytes) = some 12 := by kernel_rfl
theorem zr94 : Zr Try.prog 94 [(.int .u32 0), (.int .u32 0), (.int .u32 0)] := by unfold Zr; kernel_rfl
theorem sz97 : Sz Try.prog 97 1 := by unfold Sz; kernel_rfl
theorem ag97 : Ag Try.prog 97 false := by unfold Ag; kernel_rfl
theorem by97 : (Try.prog.info? 97).map (·.bytes) = some 8 := by kernel_rfl
theorem zr97 : Zr Try.prog 97 [.nilFunc] := by unfold Zr; kernel_rfl
theorem sz99 : Sz Try.prog 99 1 := by unfold Sz; kernel_rfl
theorem ag99 : Ag Try.prog 99 false := by unfold Ag; kernel_rfl
theorem by99 : (Try.prog.info? 99).map (·.bytes) = some 4 := by kernel_rfl
theorem zr99 : Zr Try.prog 99 [(.float .f32 0)] := by unfold Zr; kernel_rfl
theorem sz103 : Sz Try.prog 103 2 := by unfold Sz; kernel_rfl
theorem ag103 : Ag Try.prog 103 true := by unfold Ag; kernel_rfl
theorem by103 : (Try.prog.info? 103).map (·.bytes) = some 8 := by kernel_rfl
theorem zr103 : Zr Try.prog 103 [(.int .u32 0), (.int .u32 0)] := by unfold Zr; kernel_rfl
theorem sz117 : Sz Try.prog 117 1 := by unfold Sz; kernel_rfl
theorem ag117 : Ag Try.prog 117 false := by unfold Ag; kernel_rfl
theorem by117 : (Try.prog.info? 117).map (·.bytes) = some 8 := by kernel_rfl
theorem zr117 : Zr Try.prog 117 [.nilFunc] := by unfold Zr; kernel_rfl
theorem sz120 : Sz Try.prog 120 3 := by unfold Sz; kernel_rfl
theorem ag120 : Ag Try.prog 120 true := by unfold Ag; kernel_rfl
theorem by120 : (Try.prog.info? 120).map (·.bytes) = some 24 := by kernel_rfl
theorem zr120 : Zr Try.prog 120 [(.int .i64 0), (.int .i64 0), .nilFunc] := by unfold Zr; kernel_rfl
theorem sz131 : Sz Try.prog 131 1 := by unfold Sz; kernel_rfl
theorem ag131 : Ag Try.prog 131 true := by unfold Ag; kernel_rfl
theorem by131 : (Try.prog.info? 131).map (·.bytes) = some 8 := by kernel_rfl
theorem zr131 : Zr Try.prog 131 [.nilFunc] := by unfold Zr; kernel_rfl
theorem sz148 : Sz Try.prog 148 3 := by unfold Sz; kernel_rfl
theorem ag148 : Ag Try.prog 148 true := by unfold Ag; kernel_rfl
theorem by148 : (Try.prog.info? 148).map (·.bytes) = some 24 := by kernel_rfl
theorem zr148 : Zr Try.prog 148 [(.bool false), (.int .i64 0), (.int .i64 0)] := by unfold Zr; kernel_rfl
theorem sfs148 : Sfs Try.prog 148 [(4, 0), (3, 1), (3, 2)] := ⟨by kernel_rfl, by kernel_rfl, by kernel_rfl, by kernel_rfl, by kernel_rfl⟩
theorem own7 : Own Try.prog 7 := ⟨_, Try.func7, by kernel_rfl, rfl⟩
theorem own8 : Own Try.prog 8 := ⟨_, Try.func8, by kernel_rfl, rfl⟩
theorem own9 : Own Try.prog 9 := ⟨_, Try.func9, by kernel_rfl, rfl⟩
theorem own13 : Own Try.prog 13 := ⟨_, Try.func13, by kernel_rfl, rfl⟩
theorem own14 : Own Try.prog 14 := ⟨_, Try.func14, by kernel_rfl, rfl⟩
theorem own15 : Own Try.prog 15 := ⟨_, Try.func15, by kernel_rfl, rfl⟩
theorem own16 : Own Try.prog 16 := ⟨_, Try.func16, by kernel_rfl, rfl⟩
theorem own17 : Own Try.prog 17 := ⟨_, Try.func17, by kernel_rfl, rfl⟩
theorem own18 : Own Try.prog 18 := ⟨_, Try.func18, by kernel_rfl, rfl⟩
theorem own19 : Own Try.prog 19 := ⟨_, Try.func19, by kernel_rfl, rfl⟩
theorem own21 : Own Try.prog 21 := ⟨_, Try.func21, by kernel_rfl, rfl⟩
theorem own24 : Own Try.prog 24 := ⟨_, Try.func24, by kernel_rfl, rfl⟩
theorem own26 : Own Try.prog 26 := ⟨_, Try.func26, by kernel_rfl, rfl⟩
theorem own27 : Own Try.prog 27 := ⟨_, Try.func27, by kernel_rfl, rfl⟩
theorem own28 : Own Try.prog 28 := ⟨_, Try.func28, by kernel_rfl, rfl⟩
theorem own33 : Own Try.prog 33 := ⟨_, Try.func33, by kernel_rfl, rfl⟩
theorem own34 : Own Try.prog 34 := ⟨_, Try.func34, by kernel_rfl, rfl⟩
theorem own35 : Own Try.prog 35 := ⟨_, Try.func35, by kernel_rfl, rfl⟩
theorem own36 : Own Try.prog 36 := ⟨_, Try.func36, by kernel_rfl, rfl⟩
theorem own41 : Own Try.prog 41 := ⟨_, Try.func41, by kernel_rfl, rfl⟩
theorem own42 : Own Try.prog 42 := ⟨_, Try.func42, by kernel_rfl, rfl⟩
theorem own46 : Own Try.prog 46 := ⟨_, Try.func46, by kernel_rfl, rfl⟩
theorem own47 : Own Try.prog 47 := ⟨_, Try.func47, by kernel_rfl, rfl⟩
theorem own48 : Own Try.prog 48 := ⟨_, Try.func48, by kernel_rfl, rfl⟩
theorem own49 : Own Try.prog 49 := ⟨_, Try.func49, by kernel_rfl, rfl⟩
theorem own50 : Own Try.prog 50 := ⟨_, Try.func50, by kernel_rfl, rfl⟩
theorem own51 : Own Try.prog 51 := ⟨_, Try.func51, by kernel_rfl, rfl⟩
theorem own52 : Own Try.prog 52 := ⟨_, Try.func52, by kernel_rfl, rfl⟩
theorem own53 : Own Try.prog 53 := ⟨_, Try.func53, by kernel_rfl, rfl⟩
theorem own55 : Own Try.prog 55 := ⟨_, Try.func55, by kernel_rfl, rfl⟩
theorem own56 : Own Try.prog 56 := ⟨_, Try.func56, by kernel_rfl, rfl⟩
theorem own57 : Own Try.prog 57 := ⟨_, Try.func57, by kernel_rfl, rfl⟩
theorem own58 : Own Try.prog 58 := ⟨_, Try.func58, by kernel_rfl, rfl⟩
theorem own59 : Own Try.prog 59 := ⟨_, Try.func59, by kernel_rfl, rfl⟩
theorem own60 : Own Try.prog 60 := ⟨_, Try.func60, by kernel_rfl, rfl⟩
theorem own61 : Own Try.prog 61 := ⟨_, Try.func61, by kernel_rfl, rfl⟩
theorem own62 : Own Try.prog 62 := ⟨_, Try.func62, by kernel_rfl, rfl⟩
theorem own63 : Own Try.prog 63 := ⟨_, Try.func63, by kernel_rfl, rfl⟩
theorem own64 : Own Try.prog 64 := ⟨_, Try.func64, by kernel_rfl, rfl⟩
theorem own65 : Own Try.prog 65 := ⟨_, Try.func65, by kernel_rfl, rfl⟩
theorem own66 : Own Try.prog 66 := ⟨_, Try.func66, by kernel_rfl, rfl⟩
theorem own67 : Own Try.prog 67 := ⟨_, Try.func67, by kernel_rfl, rfl⟩
theorem own68 : Own Try.prog 68 := ⟨_, Try.func68, by kernel_rfl, rfl⟩
theorem own69 : Own Try.prog 69 := ⟨_, Try.func69, by kernel_rfl, rfl⟩
theorem own70 : Own Try.prog 70 := ⟨_, Try.func70, by kernel_rfl, rfl⟩
theorem own73 : Own Try.prog 73 := ⟨_, Try.func73, by kernel_rfl, rfl⟩
theorem own76 : Own Try.prog 76 := ⟨_, Try.func76, by kernel_rfl, rfl⟩
theorem own77 : Own Try.prog 77 := ⟨_, Try.func77, by kernel_rfl, rfl⟩
theorem own79 : Own Try.prog 79 := ⟨_, Try.func79, by kernel_rfl, rfl⟩
theorem own80 : Own Try.prog 80 := ⟨_, Try.func80, by kernel_rfl, rfl⟩
theorem own81 : Own Try.prog 81 := ⟨_, Try.func81, by kernel_rfl, rfl⟩
theorem own82 : Own Try.prog 82 := ⟨_, Try.func82, by kernel_rfl, rfl⟩
theorem own85 : Own Try.prog 85 := ⟨_, Try.func85, by kernel_rfl, rfl⟩
theorem own87 : Own Try.prog 87 := ⟨_, Try.func87, by kernel_rfl, rfl⟩
theorem own88 : Own Try.prog 88 := ⟨_, Try.func88, by kernel_rfl, rfl⟩
theorem own89 : Own Try.prog 89 := ⟨_, Try.func89, by kernel_rfl, rfl⟩
theorem own90 : Own Try.prog 90 := ⟨_, Try.func90, by kernel_rfl, rfl⟩
theorem own91 : Own Try.prog 91 := ⟨_, Try.func91, by kernel_rfl, rfl⟩
theorem own92 : Own Try.prog 92 := ⟨_, Try.func92, by kernel_rfl, rfl⟩
theorem own103 : Own Try.prog 103 := ⟨_, Try.func103, by kernel_rfl, rfl⟩
theorem own104 : Own Try.prog 104 := ⟨_, Try.func104, by kernel_rfl, rfl⟩
theorem own105 : Own Try.prog 105 := ⟨_, Try.func105, by kernel_rfl, rfl⟩
theorem own108 : Own Try.prog 108 := ⟨_, Try.func108, by kernel_rfl, rfl⟩
theorem own109 : Own Try.prog 109 := ⟨_, Try.func109, by kernel_rfl, rfl⟩
theorem own110 : Own Try.prog 110 := ⟨_, Try.func110, by kernel_rfl, rfl⟩
theorem own116 : Own Try.prog 116 := ⟨_, Try.func116, by kernel_rfl, rfl⟩
theorem own119 : Own Try.prog 119 := ⟨_, Try.func119, by kernel_rfl, rfl⟩
theorem own120 : Own Try.prog 120 := ⟨_, Try.func120, by kernel_rfl, rfl⟩
theorem own122 : Own Try.prog 122 := ⟨_, Try.func122, by kernel_rfl, rfl⟩
theorem ext54 : Pex Try.prog 54 Extern.MathFloatBits.float32frombits := ⟨_, Try.func54, by kernel_rfl, by kernel_rfl, by kernel_rfl, by kernel_rfl⟩
theorem ext83 : Pex Try.prog 83 Extern.MathFloatBits.float32bits := ⟨_, Try.func83, by kernel_rfl, by kernel_rfl, by kernel_rfl, by kernel_rfl⟩
theorem ext106 : Pex Try.prog 106 Extern.MathFloatBits.float64bits := ⟨_, Try.func106, by kernel_rfl, by kernel_rfl, by kernel_rfl, by kernel_rfl⟩
theorem ext107 : Pex Try.prog 107 Extern.MathFloatBits.float64frombits := ⟨_, Try.func107, by kernel_rfl, by kernel_rfl, by kernel_rfl, by kernel_rfl⟩
theorem mixed : Try.prog.follows .mixedOrders = true := by kernel_rfl
end Go.Proofs.Ytiikkhbmhojbaaa.T
