/- What the steps ask of this program's types and functions: sizes, zero values, which functions have bodies of their own. -/
import Derived.Test.YtiikkhbmhojbaaaGreatProg
import Derived.Test.YtiikkhbmhojbaaaGreatSx
namespace Go.Proofs.YtiikkhbmhojbaaaGreat.T
open Go Sx
theorem sz3 : Sz Tryz.prog 3 1 := by unfold Sz; kernel_rfl
theorem ag3 : Ag Tryz.prog 3 false := by unfold Ag; kernel_rfl
theorem by3 : (Tryz.prog.info? 3).map (·.bytes) = some 8 := by kernel_rfl
theorem zr3 : Zr Tryz.prog 3 [(.int .i64 0)] := by unfold Zr; kernel_rfl
theorem sz4 : Sz Tryz.prog 4 1 := by unfold Sz; kernel_rfl
theorem ag4 : Ag Tryz.prog 4 false := by unfold Ag; kernel_rfl
theorem by4 : (Tryz.prog.info? 4).map (·.bytes) = some 1 := by kernel_rfl
theorem zr4 : Zr Tryz.prog 4 [(.bool false)] := by unfold Zr; kernel_rfl
theorem sz22 : Sz Tryz.prog 22 1 := by unfold Sz; kernel_rfl
theorem ag22 : Ag Tryz.prog 22 false := by unfold Ag; kernel_rfl
theorem by22 : (Tryz.prog.info? 22).map (·.bytes) = some 24 := by kernel_rfl
theorem zr22 : Zr Tryz.prog 22 [(.slice none 0 0)] := by unfold Zr; kernel_rfl
theorem sz24 : Sz Tryz.prog 24 2 := by unfold Sz; kernel_rfl
theorem ag24 : Ag Tryz.prog 24 true := by unfold Ag; kernel_rfl
theorem by24 : (Tryz.prog.info? 24).map (·.bytes) = some 32 := by kernel_rfl
theorem zr24 : Zr Tryz.prog 24 [(.int .i64 0), (.slice none 0 0)] := by unfold Zr; kernel_rfl
theorem sz29 : Sz Tryz.prog 29 1 := by unfold Sz; kernel_rfl
theorem ag29 : Ag Tryz.prog 29 false := by unfold Ag; kernel_rfl
theorem by29 : (Tryz.prog.info? 29).map (·.bytes) = some 24 := by kernel_rfl
theorem zr29 : Zr Tryz.prog 29 [(.slice none 0 0)] := by unfold Zr; kernel_rfl
theorem sz30 : Sz Tryz.prog 30 1 := by unfold Sz; kernel_rfl
theorem ag30 : Ag Tryz.prog 30 false := by unfold Ag; kernel_rfl
theorem by30 : (Tryz.prog.info? 30).map (·.bytes) = some 24 := by kernel_rfl
theorem zr30 : Zr Tryz.prog 30 [(.slice none 0 0)] := by unfold Zr; kernel_rfl
theorem sz31 : Sz Tryz.prog 31 1 := by unfold Sz; kernel_rfl
theorem ag31 : Ag Tryz.prog 31 false := by unfold Ag; kernel_rfl
theorem by31 : (Tryz.prog.info? 31).map (·.bytes) = some 24 := by kernel_rfl
theorem zr31 : Zr Tryz.prog 31 [(.slice none 0 0)] := by unfold Zr; kernel_rfl
theorem sz32 : Sz Tryz.prog 32 1 := by unfold Sz; kernel_rfl
theorem ag32 : Ag Tryz.prog 32 false := by unfold Ag; kernel_rfl
theorem by32 : (Tryz.prog.info? 32).map (·.bytes) = some 24 := by kernel_rfl
theorem zr32 : Zr Tryz.prog 32 [(.slice none 0 0)] := by unfold Zr; kernel_rfl
theorem sz33 : Sz Tryz.prog 33 1 := by unfold Sz; kernel_rfl
theorem ag33 : Ag Tryz.prog 33 false := by unfold Ag; kernel_rfl
theorem by33 : (Tryz.prog.info? 33).map (·.bytes) = some 24 := by kernel_rfl
theorem zr33 : Zr Tryz.prog 33 [(.slice none 0 0)] := by unfold Zr; kernel_rfl
theorem sz34 : Sz Tryz.prog 34 4 := by unfold Sz; kernel_rfl
theorem ag34 : Ag Tryz.prog 34 true := by unfold Ag; kernel_rfl
theorem by34 : (Tryz.prog.info? 34).map (·.bytes) = some 96 := by kernel_rfl
theorem zr34 : Zr Tryz.prog 34 [(.slice none 0 0), (.slice none 0 0), (.slice none 0 0), (.slice none 0 0)] := by unfold Zr; kernel_rfl
theorem sz36 : Sz Tryz.prog 36 8 := by unfold Sz; kernel_rfl
theorem ag36 : Ag Tryz.prog 36 true := by unfold Ag; kernel_rfl
theorem by36 : (Tryz.prog.info? 36).map (·.bytes) = some 192 := by kernel_rfl
theorem zr36 : Zr Tryz.prog 36 [(.slice none 0 0), (.slice none 0 0), (.slice none 0 0), (.slice none 0 0), (.slice none 0 0), (.slice none 0 0), (.slice none 0 0), (.slice none 0 0)] := by unfold Zr; kernel_rfl
theorem sz39 : Sz Tryz.prog 39 8 := by unfold Sz; kernel_rfl
theorem ag39 : Ag Tryz.prog 39 true := by unfold Ag; kernel_rfl
theorem by39 : (Tryz.prog.info? 39).map (·.bytes) = some 192 := by kernel_rfl
theorem zr39 : Zr Tryz.prog 39 [(.slice none 0 0), (.slice none 0 0), (.slice none 0 0), (.slice none 0 0), (.slice none 0 0), (.slice none 0 0), (.slice none 0 0), (.slice none 0 0)] := by unfold Zr; kernel_rfl
theorem sz52 : Sz Tryz.prog 52 1 := by unfold Sz; kernel_rfl
theorem ag52 : Ag Tryz.prog 52 false := by unfold Ag; kernel_rfl
theorem by52 : (Tryz.prog.info? 52).map (·.bytes) = some 4 := by kernel_rfl
theorem zr52 : Zr Tryz.prog 52 [(.int .u32 0)] := by unfold Zr; kernel_rfl
theorem sz53 : Sz Tryz.prog 53 1 := by unfold Sz; kernel_rfl
theorem ag53 : Ag Tryz.prog 53 false := by unfold Ag; kernel_rfl
theorem by53 : (Tryz.prog.info? 53).map (·.bytes) = some 24 := by kernel_rfl
theorem zr53 : Zr Tryz.prog 53 [(.slice none 0 0)] := by unfold Zr; kernel_rfl
theorem sz55 : Sz Tryz.prog 55 1 := by unfold Sz; kernel_rfl
theorem ag55 : Ag Tryz.prog 55 false := by unfold Ag; kernel_rfl
theorem by55 : (Tryz.prog.info? 55).map (·.bytes) = some 8 := by kernel_rfl
theorem zr55 : Zr Tryz.prog 55 [.nilFunc] := by unfold Zr; kernel_rfl
theorem sz62 : Sz Tryz.prog 62 9 := by unfold Sz; kernel_rfl
theorem ag62 : Ag Tryz.prog 62 true := by unfold Ag; kernel_rfl
theorem by62 : (Tryz.prog.info? 62).map (·.bytes) = some 36 := by kernel_rfl
theorem zr62 : Zr Tryz.prog 62 [(.int .u32 0), (.int .u32 0), (.int .u32 0), (.int .u32 0), (.int .u32 0), (.int .u32 0), (.int .u32 0), (.int .u32 0), (.int .u32 0)] := by unfold Zr; kernel_rfl
theorem sz75 : Sz Tryz.prog 75 3 := by unfold Sz; kernel_rfl
theorem ag75 : Ag Tryz.prog 75 true := by unfold Ag; kernel_rfl
theorem by75 : (Tryz.prog.info? 75).map (·.bytes) = some 40 := by kernel_rfl
theorem zr75 : Zr Tryz.prog 75 [(.int .i64 0), (.int .i64 0), (.slice none 0 0)] := by unfold Zr; kernel_rfl
theorem sz91 : Sz Tryz.prog 91 1 := by unfold Sz; kernel_rfl
theorem ag91 : Ag Tryz.prog 91 false := by unfold Ag; kernel_rfl
theorem by91 : (Tryz.prog.info? 91).map (·.bytes) = some 8 := by kernel_rfl
theorem zr91 : Zr Tryz.prog 91 [.nilFunc] := by unfold Zr; kernel_rfl
theorem sz101 : Sz Tryz.prog 101 1 := by unfold Sz; kernel_rfl
theorem ag101 : Ag Tryz.prog 101 true := by unfold Ag; kernel_rfl
theorem by101 : (Tryz.prog.info? 101).map (·.bytes) = some 8 := by kernel_rfl
theorem zr101 : Zr Tryz.prog 101 [.nilFunc] := by unfold Zr; kernel_rfl
theorem sz105 : Sz Tryz.prog 105 2 := by unfold Sz; kernel_rfl
theorem ag105 : Ag Tryz.prog 105 true := by unfold Ag; kernel_rfl
theorem by105 : (Tryz.prog.info? 105).map (·.bytes) = some 8 := by kernel_rfl
theorem zr105 : Zr Tryz.prog 105 [(.int .u32 0), (.int .u32 0)] := by unfold Zr; kernel_rfl
theorem sz107 : Sz Tryz.prog 107 2 := by unfold Sz; kernel_rfl
theorem ag107 : Ag Tryz.prog 107 true := by unfold Ag; kernel_rfl
theorem by107 : (Tryz.prog.info? 107).map (·.bytes) = some 8 := by kernel_rfl
theorem zr107 : Zr Tryz.prog 107 [(.int .u32 0), (.int .u32 0)] := by unfold Zr; kernel_rfl
theorem sz108 : Sz Tryz.prog 108 1 := by unfold Sz; kernel_rfl
theorem ag108 : Ag Tryz.prog 108 false := by unfold Ag; kernel_rfl
theorem by108 : (Tryz.prog.info? 108).map (·.bytes) = some 8 := by kernel_rfl
theorem zr108 : Zr Tryz.prog 108 [(.float .f64 0)] := by unfold Zr; kernel_rfl
theorem sz109 : Sz Tryz.prog 109 3 := by unfold Sz; kernel_rfl
theorem ag109 : Ag Tryz.prog 109 true := by unfold Ag; kernel_rfl
theorem by109 : (Tryz.prog.info? 109).map (·.bytes) = some 24 := by kernel_rfl
theorem zr109 : Zr Tryz.prog 109 [(.float .f64 0), (.float .f64 0), (.float .f64 0)] := by unfold Zr; kernel_rfl
theorem sz110 : Sz Tryz.prog 110 9 := by unfold Sz; kernel_rfl
theorem ag110 : Ag Tryz.prog 110 true := by unfold Ag; kernel_rfl
theorem by110 : (Tryz.prog.info? 110).map (·.bytes) = some 72 := by kernel_rfl
theorem zr110 : Zr Tryz.prog 110 [(.float .f64 0), (.float .f64 0), (.float .f64 0), (.float .f64 0), (.float .f64 0), (.float .f64 0), (.float .f64 0), (.float .f64 0), (.float .f64 0)] := by unfold Zr; kernel_rfl
theorem sz112 : Sz Tryz.prog 112 3 := by unfold Sz; kernel_rfl
theorem ag112 : Ag Tryz.prog 112 true := by unfold Ag; kernel_rfl
theorem by112 : (Tryz.prog.info? 112).map (·.bytes) = some 12 := by kernel_rfl
theorem zr112 : Zr Tryz.prog 112 [(.int .u32 0), (.int .u32 0), (.int .u32 0)] := by unfold Zr; kernel_rfl
theorem sz115 : Sz Tryz.prog 115 1 := by unfold Sz; kernel_rfl
theorem ag115 : Ag Tryz.prog 115 false := by unfold Ag; kernel_rfl
theorem by115 : (Tryz.prog.info? 115).map (·.bytes) = some 8 := by kernel_rfl
theorem zr115 : Zr Tryz.prog 115 [.nilFunc] := by unfold Zr; kernel_rfl
theorem sz122 : Sz Tryz.prog 122 1 := by unfold Sz; kernel_rfl
theorem ag122 : Ag Tryz.prog 122 false := by unfold Ag; kernel_rfl
theorem by122 : (Tryz.prog.info? 122).map (·.bytes) = some 8 := by kernel_rfl
theorem zr122 : Zr Tryz.prog 122 [.nilFunc] := by unfold Zr; kernel_rfl
theorem sz125 : Sz Tryz.prog 125 3 := by unfold Sz; kernel_rfl
theorem ag125 : Ag Tryz.prog 125 true := by unfold Ag; kernel_rfl
theorem by125 : (Tryz.prog.info? 125).map (·.bytes) = some 24 := by kernel_rfl
theorem zr125 : Zr Tryz.prog 125 [(.int .i64 0), (.int .i64 0), .nilFunc] := by unfold Zr; kernel_rfl
theorem sz145 : Sz Tryz.prog 145 1 := by unfold Sz; kernel_rfl
theorem ag145 : Ag Tryz.prog 145 false := by unfold Ag; kernel_rfl
theorem by145 : (Tryz.prog.info? 145).map (·.bytes) = some 4 := by kernel_rfl
theorem zr145 : Zr Tryz.prog 145 [(.float .f32 0)] := by unfold Zr; kernel_rfl
theorem sz192 : Sz Tryz.prog 192 3 := by unfold Sz; kernel_rfl
theorem ag192 : Ag Tryz.prog 192 true := by unfold Ag; kernel_rfl
theorem by192 : (Tryz.prog.info? 192).map (·.bytes) = some 24 := by kernel_rfl
theorem zr192 : Zr Tryz.prog 192 [(.bool false), (.int .i64 0), (.int .i64 0)] := by unfold Zr; kernel_rfl
theorem sfs192 : Sfs Tryz.prog 192 [(4, 0), (3, 1), (3, 2)] := ⟨by kernel_rfl, by kernel_rfl, by kernel_rfl, by kernel_rfl, by kernel_rfl⟩
theorem own6 : Own Tryz.prog 6 := ⟨_, Tryz.func6, by kernel_rfl, rfl⟩
theorem own7 : Own Tryz.prog 7 := ⟨_, Tryz.func7, by kernel_rfl, rfl⟩
theorem own16 : Own Tryz.prog 16 := ⟨_, Tryz.func16, by kernel_rfl, rfl⟩
theorem own17 : Own Tryz.prog 17 := ⟨_, Tryz.func17, by kernel_rfl, rfl⟩
theorem own18 : Own Tryz.prog 18 := ⟨_, Tryz.func18, by kernel_rfl, rfl⟩
theorem own19 : Own Tryz.prog 19 := ⟨_, Tryz.func19, by kernel_rfl, rfl⟩
theorem own20 : Own Tryz.prog 20 := ⟨_, Tryz.func20, by kernel_rfl, rfl⟩
theorem own21 : Own Tryz.prog 21 := ⟨_, Tryz.func21, by kernel_rfl, rfl⟩
theorem own22 : Own Tryz.prog 22 := ⟨_, Tryz.func22, by kernel_rfl, rfl⟩
theorem own23 : Own Tryz.prog 23 := ⟨_, Tryz.func23, by kernel_rfl, rfl⟩
theorem own25 : Own Tryz.prog 25 := ⟨_, Tryz.func25, by kernel_rfl, rfl⟩
theorem own27 : Own Tryz.prog 27 := ⟨_, Tryz.func27, by kernel_rfl, rfl⟩
theorem own29 : Own Tryz.prog 29 := ⟨_, Tryz.func29, by kernel_rfl, rfl⟩
theorem own33 : Own Tryz.prog 33 := ⟨_, Tryz.func33, by kernel_rfl, rfl⟩
theorem own34 : Own Tryz.prog 34 := ⟨_, Tryz.func34, by kernel_rfl, rfl⟩
theorem own35 : Own Tryz.prog 35 := ⟨_, Tryz.func35, by kernel_rfl, rfl⟩
theorem own36 : Own Tryz.prog 36 := ⟨_, Tryz.func36, by kernel_rfl, rfl⟩
theorem own39 : Own Tryz.prog 39 := ⟨_, Tryz.func39, by kernel_rfl, rfl⟩
theorem own41 : Own Tryz.prog 41 := ⟨_, Tryz.func41, by kernel_rfl, rfl⟩
theorem own42 : Own Tryz.prog 42 := ⟨_, Tryz.func42, by kernel_rfl, rfl⟩
theorem own43 : Own Tryz.prog 43 := ⟨_, Tryz.func43, by kernel_rfl, rfl⟩
theorem own48 : Own Tryz.prog 48 := ⟨_, Tryz.func48, by kernel_rfl, rfl⟩
theorem own51 : Own Tryz.prog 51 := ⟨_, Tryz.func51, by kernel_rfl, rfl⟩
theorem own52 : Own Tryz.prog 52 := ⟨_, Tryz.func52, by kernel_rfl, rfl⟩
theorem own55 : Own Tryz.prog 55 := ⟨_, Tryz.func55, by kernel_rfl, rfl⟩
theorem own56 : Own Tryz.prog 56 := ⟨_, Tryz.func56, by kernel_rfl, rfl⟩
theorem own57 : Own Tryz.prog 57 := ⟨_, Tryz.func57, by kernel_rfl, rfl⟩
theorem own58 : Own Tryz.prog 58 := ⟨_, Tryz.func58, by kernel_rfl, rfl⟩
theorem own59 : Own Tryz.prog 59 := ⟨_, Tryz.func59, by kernel_rfl, rfl⟩
theorem own60 : Own Tryz.prog 60 := ⟨_, Tryz.func60, by kernel_rfl, rfl⟩
theorem own61 : Own Tryz.prog 61 := ⟨_, Tryz.func61, by kernel_rfl, rfl⟩
theorem own62 : Own Tryz.prog 62 := ⟨_, Tryz.func62, by kernel_rfl, rfl⟩
theorem own63 : Own Tryz.prog 63 := ⟨_, Tryz.func63, by kernel_rfl, rfl⟩
theorem own64 : Own Tryz.prog 64 := ⟨_, Tryz.func64, by kernel_rfl, rfl⟩
theorem own65 : Own Tryz.prog 65 := ⟨_, Tryz.func65, by kernel_rfl, rfl⟩
theorem own68 : Own Tryz.prog 68 := ⟨_, Tryz.func68, by kernel_rfl, rfl⟩
theorem own69 : Own Tryz.prog 69 := ⟨_, Tryz.func69, by kernel_rfl, rfl⟩
theorem own74 : Own Tryz.prog 74 := ⟨_, Tryz.func74, by kernel_rfl, rfl⟩
theorem own75 : Own Tryz.prog 75 := ⟨_, Tryz.func75, by kernel_rfl, rfl⟩
theorem own76 : Own Tryz.prog 76 := ⟨_, Tryz.func76, by kernel_rfl, rfl⟩
theorem own77 : Own Tryz.prog 77 := ⟨_, Tryz.func77, by kernel_rfl, rfl⟩
theorem own80 : Own Tryz.prog 80 := ⟨_, Tryz.func80, by kernel_rfl, rfl⟩
theorem own81 : Own Tryz.prog 81 := ⟨_, Tryz.func81, by kernel_rfl, rfl⟩
theorem own82 : Own Tryz.prog 82 := ⟨_, Tryz.func82, by kernel_rfl, rfl⟩
theorem own83 : Own Tryz.prog 83 := ⟨_, Tryz.func83, by kernel_rfl, rfl⟩
theorem own85 : Own Tryz.prog 85 := ⟨_, Tryz.func85, by kernel_rfl, rfl⟩
theorem own86 : Own Tryz.prog 86 := ⟨_, Tryz.func86, by kernel_rfl, rfl⟩
theorem own92 : Own Tryz.prog 92 := ⟨_, Tryz.func92, by kernel_rfl, rfl⟩
theorem own93 : Own Tryz.prog 93 := ⟨_, Tryz.func93, by kernel_rfl, rfl⟩
theorem own100 : Own Tryz.prog 100 := ⟨_, Tryz.func100, by kernel_rfl, rfl⟩
theorem own101 : Own Tryz.prog 101 := ⟨_, Tryz.func101, by kernel_rfl, rfl⟩
theorem own102 : Own Tryz.prog 102 := ⟨_, Tryz.func102, by kernel_rfl, rfl⟩
theorem own104 : Own Tryz.prog 104 := ⟨_, Tryz.func104, by kernel_rfl, rfl⟩
theorem own108 : Own Tryz.prog 108 := ⟨_, Tryz.func108, by kernel_rfl, rfl⟩
theorem own110 : Own Tryz.prog 110 := ⟨_, Tryz.func110, by kernel_rfl, rfl⟩
theorem own111 : Own Tryz.prog 111 := ⟨_, Tryz.func111, by kernel_rfl, rfl⟩
theorem own118 : Own Tryz.prog 118 := ⟨_, Tryz.func118, by kernel_rfl, rfl⟩
theorem own119 : Own Tryz.prog 119 := ⟨_, Tryz.func119, by kernel_rfl, rfl⟩
theorem own120 : Own Tryz.prog 120 := ⟨_, Tryz.func120, by kernel_rfl, rfl⟩
theorem own122 : Own Tryz.prog 122 := ⟨_, Tryz.func122, by kernel_rfl, rfl⟩
theorem own123 : Own Tryz.prog 123 := ⟨_, Tryz.func123, by kernel_rfl, rfl⟩
theorem own148 : Own Tryz.prog 148 := ⟨_, Tryz.func148, by kernel_rfl, rfl⟩
theorem own149 : Own Tryz.prog 149 := ⟨_, Tryz.func149, by kernel_rfl, rfl⟩
theorem own150 : Own Tryz.prog 150 := ⟨_, Tryz.func150, by kernel_rfl, rfl⟩
theorem own153 : Own Tryz.prog 153 := ⟨_, Tryz.func153, by kernel_rfl, rfl⟩
theorem own154 : Own Tryz.prog 154 := ⟨_, Tryz.func154, by kernel_rfl, rfl⟩
theorem own155 : Own Tryz.prog 155 := ⟨_, Tryz.func155, by kernel_rfl, rfl⟩
theorem own166 : Own Tryz.prog 166 := ⟨_, Tryz.func166, by kernel_rfl, rfl⟩
theorem own182 : Own Tryz.prog 182 := ⟨_, Tryz.func182, by kernel_rfl, rfl⟩
theorem own183 : Own Tryz.prog 183 := ⟨_, Tryz.func183, by kernel_rfl, rfl⟩
theorem own197 : Own Tryz.prog 197 := ⟨_, Tryz.func197, by kernel_rfl, rfl⟩
theorem ext103 : Pex Tryz.prog 103 Extern.MathFloatBits.float32frombits := ⟨_, Tryz.func103, by kernel_rfl, by kernel_rfl, by kernel_rfl, by kernel_rfl⟩
theorem ext105 : Pex Tryz.prog 105 Extern.MathFloatBits.float32bits := ⟨_, Tryz.func105, by kernel_rfl, by kernel_rfl, by kernel_rfl, by kernel_rfl⟩
theorem ext151 : Pex Tryz.prog 151 Extern.MathFloatBits.float64bits := ⟨_, Tryz.func151, by kernel_rfl, by kernel_rfl, by kernel_rfl, by kernel_rfl⟩
theorem ext152 : Pex Tryz.prog 152 Extern.MathFloatBits.float64frombits := ⟨_, Tryz.func152, by kernel_rfl, by kernel_rfl, by kernel_rfl, by kernel_rfl⟩
theorem mixed : Tryz.prog.follows .mixedOrders = true := by kernel_rfl
end Go.Proofs.YtiikkhbmhojbaaaGreat.T
