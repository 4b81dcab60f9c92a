/-
  Each printed function is what the executor's compiler makes of the program's function.
-/
import Derived.Test.YtjliobdjggmfeaaGreatDoorFns2
import Derived.Test.YtjliobdjggmfeaaGreatDoorKA
import Derived.KernelRfl
set_option linter.unusedVariables false
set_option linter.unusedSimpArgs false
namespace Go.Sx
open Go.Proofs
theorem fe103 : fnOf tyAt env0 Tryz.f103 = some F103 := by kernel_rfl
theorem fe104 : fnOf tyAt env0 Tryz.f104 = some F104 := by kernel_rfl
theorem fe105 : fnOf tyAt env0 Tryz.f105 = some F105 := by kernel_rfl
theorem fe107 : fnOf tyAt env0 Tryz.f107 = some F107 := by kernel_rfl
theorem fe108 : fnOf tyAt env0 Tryz.f108 = some F108 := by kernel_rfl
theorem fe109 : fnOf tyAt env0 Tryz.f109 = some F109 := by kernel_rfl
theorem fe110 : fnOf tyAt env0 Tryz.f110 = some F110 := by kernel_rfl
theorem fe111 : fnOf tyAt env0 Tryz.f111 = some F111 := by kernel_rfl
theorem fe112 : fnOf tyAt env0 Tryz.f112 = some F112 := by kernel_rfl
theorem fe114 : fnOf tyAt env0 Tryz.f114 = some F114 := by kernel_rfl
theorem fe115 : fnOf tyAt env0 Tryz.f115 = some F115 := by kernel_rfl
theorem fe116 : fnOf tyAt env0 Tryz.f116 = some F116 := by kernel_rfl
theorem fe117 : fnOf tyAt env0 Tryz.f117 = some F117 := by kernel_rfl
theorem fe118 : fnOf tyAt env0 Tryz.f118 = some F118 := by kernel_rfl
theorem fe119 : fnOf tyAt env0 Tryz.f119 = some F119 := by kernel_rfl
theorem fe120 : fnOf tyAt env0 Tryz.f120 = some F120 := by kernel_rfl
theorem fe121 : fnOf tyAt env0 Tryz.f121 = some F121 := by kernel_rfl
theorem fe122 : fnOf tyAt env0 Tryz.f122 = some F122 := by kernel_rfl
theorem fe123 : fnOf tyAt env0 Tryz.f123 = some F123 := by kernel_rfl
theorem fe124 : fnOf tyAt env0 Tryz.f124 = some F124 := by kernel_rfl
theorem fe125 : fnOf tyAt env0 Tryz.f125 = some F125 := by kernel_rfl
theorem fe127 : fnOf tyAt env0 Tryz.f127 = some F127 := by kernel_rfl
theorem fe128 : fnOf tyAt env0 Tryz.f128 = some F128 := by kernel_rfl
theorem fe129 : fnOf tyAt env0 Tryz.f129 = some F129 := by kernel_rfl
theorem fe130 : fnOf tyAt env0 Tryz.f130 = some F130 := by kernel_rfl
theorem fe131 : fnOf tyAt env0 Tryz.f131 = some F131 := by kernel_rfl
theorem fe132 : fnOf tyAt env0 Tryz.f132 = some F132 := by kernel_rfl
theorem fe133 : fnOf tyAt env0 Tryz.f133 = some F133 := by kernel_rfl
theorem fe134 : fnOf tyAt env0 Tryz.f134 = some F134 := by kernel_rfl
theorem fe135 : fnOf tyAt env0 Tryz.f135 = some F135 := by kernel_rfl
theorem fe144 : fnOf tyAt env0 Tryz.f144 = some F144 := by kernel_rfl
theorem fe145 : fnOf tyAt env0 Tryz.f145 = some F145 := by kernel_rfl
theorem fe146 : fnOf tyAt env0 Tryz.f146 = some F146 := by kernel_rfl
theorem fe147 : fnOf tyAt env0 Tryz.f147 = some F147 := by kernel_rfl
theorem fe148 : fnOf tyAt env0 Tryz.f148 = some F148 := by kernel_rfl
theorem fe149 : fnOf tyAt env0 Tryz.f149 = some F149 := by kernel_rfl
theorem fe150 : fnOf tyAt env0 Tryz.f150 = some F150 := by kernel_rfl
theorem fe151 : fnOf tyAt env0 Tryz.f151 = some F151 := by kernel_rfl
theorem fe152 : fnOf tyAt env0 Tryz.f152 = some F152 := by kernel_rfl
theorem fe153 : fnOf tyAt env0 Tryz.f153 = some F153 := by kernel_rfl
theorem fe154 : fnOf tyAt env0 Tryz.f154 = some F154 := by kernel_rfl
theorem fe155 : fnOf tyAt env0 Tryz.f155 = some F155 := by kernel_rfl
theorem fe156 : fnOf tyAt env0 Tryz.f156 = some F156 := by kernel_rfl
theorem fe158 : fnOf tyAt env0 Tryz.f158 = some F158 := by kernel_rfl
theorem fe159 : fnOf tyAt env0 Tryz.f159 = some F159 := by kernel_rfl
theorem fe160 : fnOf tyAt env0 Tryz.f160 = some F160 := by kernel_rfl
theorem fe161 : fnOf tyAt env0 Tryz.f161 = some F161 := by kernel_rfl
theorem fe162 : fnOf tyAt env0 Tryz.f162 = some F162 := by kernel_rfl
theorem fe163 : fnOf tyAt env0 Tryz.f163 = some F163 := by kernel_rfl
theorem fe164 : fnOf tyAt env0 Tryz.f164 = some F164 := by kernel_rfl
theorem fe165 : fnOf tyAt env0 Tryz.f165 = some F165 := by kernel_rfl
theorem fe166 : fnOf tyAt env0 Tryz.f166 = some F166 := by kernel_rfl
theorem fe167 : fnOf tyAt env0 Tryz.f167 = some F167 := by kernel_rfl
theorem fe168 : fnOf tyAt env0 Tryz.f168 = some F168 := by kernel_rfl
theorem fe169 : fnOf tyAt env0 Tryz.f169 = some F169 := by kernel_rfl
theorem fe170 : fnOf tyAt env0 Tryz.f170 = some F170 := by kernel_rfl
theorem fe171 : fnOf tyAt env0 Tryz.f171 = some F171 := by kernel_rfl
theorem fe172 : fnOf tyAt env0 Tryz.f172 = some F172 := by kernel_rfl
theorem fe173 : fnOf tyAt env0 Tryz.f173 = some F173 := by kernel_rfl
theorem fe174 : fnOf tyAt env0 Tryz.f174 = some F174 := by kernel_rfl
theorem fe175 : fnOf tyAt env0 Tryz.f175 = some F175 := by kernel_rfl
theorem fe176 : fnOf tyAt env0 Tryz.f176 = some F176 := by kernel_rfl
theorem fe183 : fnOf tyAt env0 Tryz.f183 = some F183 := by kernel_rfl
theorem fe184 : fnOf tyAt env0 Tryz.f184 = some F184 := by kernel_rfl
theorem fe185 : fnOf tyAt env0 Tryz.f185 = some F185 := by kernel_rfl
theorem fe186 : fnOf tyAt env0 Tryz.f186 = some F186 := by kernel_rfl
theorem fe187 : fnOf tyAt env0 Tryz.f187 = some F187 := by kernel_rfl
theorem fe188 : fnOf tyAt env0 Tryz.f188 = some F188 := by kernel_rfl
theorem fe191 : fnOf tyAt env0 Tryz.f191 = some F191 := by kernel_rfl
theorem fe192 : fnOf tyAt env0 Tryz.f192 = some F192 := by kernel_rfl
theorem fe193 : fnOf tyAt env0 Tryz.f193 = some F193 := by kernel_rfl
theorem fe200 : fnOf tyAt env0 Tryz.f200 = some F200 := by kernel_rfl
theorem fe201 : fnOf tyAt env0 Tryz.f201 = some F201 := by kernel_rfl
theorem fe202 : fnOf tyAt env0 Tryz.f202 = some F202 := by kernel_rfl
theorem fe203 : fnOf tyAt env0 Tryz.f203 = some F203 := by kernel_rfl
theorem fe204 : fnOf tyAt env0 Tryz.f204 = some F204 := by kernel_rfl
theorem fe206 : fnOf tyAt env0 Tryz.f206 = some F206 := by kernel_rfl
theorem fe207 : fnOf tyAt env0 Tryz.f207 = some F207 := by kernel_rfl
theorem fe208 : fnOf tyAt env0 Tryz.f208 = some F208 := by kernel_rfl
theorem fe209 : fnOf tyAt env0 Tryz.f209 = some F209 := by kernel_rfl
theorem fe210 : fnOf tyAt env0 Tryz.f210 = some F210 := by kernel_rfl
theorem fe211 : fnOf tyAt env0 Tryz.f211 = some F211 := by kernel_rfl
theorem fe212 : fnOf tyAt env0 Tryz.f212 = some F212 := by kernel_rfl
theorem fe215 : fnOf tyAt env0 Tryz.f215 = some F215 := by kernel_rfl
theorem fe217 : fnOf tyAt env0 Tryz.f217 = some F217 := by kernel_rfl
theorem fe218 : fnOf tyAt env0 Tryz.f218 = some F218 := by kernel_rfl
theorem fe220 : fnOf tyAt env0 Tryz.f220 = some F220 := by kernel_rfl
theorem fe222 : fnOf tyAt env0 Tryz.f222 = some F222 := by kernel_rfl
theorem fe226 : fnOf tyAt env0 Tryz.f226 = some F226 := by kernel_rfl
theorem fe227 : fnOf tyAt env0 Tryz.f227 = some F227 := by kernel_rfl
theorem fe228 : fnOf tyAt env0 Tryz.f228 = some F228 := by kernel_rfl
theorem fe229 : fnOf tyAt env0 Tryz.f229 = some F229 := by kernel_rfl
theorem fe231 : fnOf tyAt env0 Tryz.f231 = some F231 := by kernel_rfl
theorem fe232 : fnOf tyAt env0 Tryz.f232 = some F232 := by kernel_rfl
theorem fe233 : fnOf tyAt env0 Tryz.f233 = some F233 := by kernel_rfl
theorem fe234 : fnOf tyAt env0 Tryz.f234 = some F234 := by kernel_rfl
end Go.Sx

namespace Go.Sx
open Go.Proofs
theorem ok103 : ∃ fn, FnGood Tryz.prog tyAt env0 103 fn F103 := ⟨Tryz.f103, Tryz.func103, fe103, by kernel_rfl, by kernel_rfl⟩
theorem ok104 : ∃ fn, FnGood Tryz.prog tyAt env0 104 fn F104 := ⟨Tryz.f104, Tryz.func104, fe104, by kernel_rfl, by kernel_rfl⟩
theorem ok105 : ∃ fn, FnGood Tryz.prog tyAt env0 105 fn F105 := ⟨Tryz.f105, Tryz.func105, fe105, by kernel_rfl, by kernel_rfl⟩
theorem ok107 : ∃ fn, FnGood Tryz.prog tyAt env0 107 fn F107 := ⟨Tryz.f107, Tryz.func107, fe107, by kernel_rfl, by kernel_rfl⟩
theorem ok108 : ∃ fn, FnGood Tryz.prog tyAt env0 108 fn F108 := ⟨Tryz.f108, Tryz.func108, fe108, by kernel_rfl, by kernel_rfl⟩
theorem ok109 : ∃ fn, FnGood Tryz.prog tyAt env0 109 fn F109 := ⟨Tryz.f109, Tryz.func109, fe109, by kernel_rfl, by kernel_rfl⟩
theorem ok110 : ∃ fn, FnGood Tryz.prog tyAt env0 110 fn F110 := ⟨Tryz.f110, Tryz.func110, fe110, by kernel_rfl, by kernel_rfl⟩
theorem ok111 : ∃ fn, FnGood Tryz.prog tyAt env0 111 fn F111 := ⟨Tryz.f111, Tryz.func111, fe111, by kernel_rfl, by kernel_rfl⟩
theorem ok112 : ∃ fn, FnGood Tryz.prog tyAt env0 112 fn F112 := ⟨Tryz.f112, Tryz.func112, fe112, by kernel_rfl, by kernel_rfl⟩
theorem ok114 : ∃ fn, FnGood Tryz.prog tyAt env0 114 fn F114 := ⟨Tryz.f114, Tryz.func114, fe114, by kernel_rfl, by kernel_rfl⟩
theorem ok115 : ∃ fn, FnGood Tryz.prog tyAt env0 115 fn F115 := ⟨Tryz.f115, Tryz.func115, fe115, by kernel_rfl, by kernel_rfl⟩
theorem ok116 : ∃ fn, FnGood Tryz.prog tyAt env0 116 fn F116 := ⟨Tryz.f116, Tryz.func116, fe116, by kernel_rfl, by kernel_rfl⟩
theorem ok117 : ∃ fn, FnGood Tryz.prog tyAt env0 117 fn F117 := ⟨Tryz.f117, Tryz.func117, fe117, by kernel_rfl, by kernel_rfl⟩
theorem ok118 : ∃ fn, FnGood Tryz.prog tyAt env0 118 fn F118 := ⟨Tryz.f118, Tryz.func118, fe118, by kernel_rfl, by kernel_rfl⟩
theorem ok119 : ∃ fn, FnGood Tryz.prog tyAt env0 119 fn F119 := ⟨Tryz.f119, Tryz.func119, fe119, by kernel_rfl, by kernel_rfl⟩
theorem ok120 : ∃ fn, FnGood Tryz.prog tyAt env0 120 fn F120 := ⟨Tryz.f120, Tryz.func120, fe120, by kernel_rfl, by kernel_rfl⟩
theorem ok121 : ∃ fn, FnGood Tryz.prog tyAt env0 121 fn F121 := ⟨Tryz.f121, Tryz.func121, fe121, by kernel_rfl, by kernel_rfl⟩
theorem ok122 : ∃ fn, FnGood Tryz.prog tyAt env0 122 fn F122 := ⟨Tryz.f122, Tryz.func122, fe122, by kernel_rfl, by kernel_rfl⟩
theorem ok123 : ∃ fn, FnGood Tryz.prog tyAt env0 123 fn F123 := ⟨Tryz.f123, Tryz.func123, fe123, by kernel_rfl, by kernel_rfl⟩
theorem ok124 : ∃ fn, FnGood Tryz.prog tyAt env0 124 fn F124 := ⟨Tryz.f124, Tryz.func124, fe124, by kernel_rfl, by kernel_rfl⟩
theorem ok125 : ∃ fn, FnGood Tryz.prog tyAt env0 125 fn F125 := ⟨Tryz.f125, Tryz.func125, fe125, by kernel_rfl, by kernel_rfl⟩
theorem ok127 : ∃ fn, FnGood Tryz.prog tyAt env0 127 fn F127 := ⟨Tryz.f127, Tryz.func127, fe127, by kernel_rfl, by kernel_rfl⟩
theorem ok128 : ∃ fn, FnGood Tryz.prog tyAt env0 128 fn F128 := ⟨Tryz.f128, Tryz.func128, fe128, by kernel_rfl, by kernel_rfl⟩
theorem ok129 : ∃ fn, FnGood Tryz.prog tyAt env0 129 fn F129 := ⟨Tryz.f129, Tryz.func129, fe129, by kernel_rfl, by kernel_rfl⟩
theorem ok130 : ∃ fn, FnGood Tryz.prog tyAt env0 130 fn F130 := ⟨Tryz.f130, Tryz.func130, fe130, by kernel_rfl, by kernel_rfl⟩
theorem ok131 : ∃ fn, FnGood Tryz.prog tyAt env0 131 fn F131 := ⟨Tryz.f131, Tryz.func131, fe131, by kernel_rfl, by kernel_rfl⟩
theorem ok132 : ∃ fn, FnGood Tryz.prog tyAt env0 132 fn F132 := ⟨Tryz.f132, Tryz.func132, fe132, by kernel_rfl, by kernel_rfl⟩
theorem ok133 : ∃ fn, FnGood Tryz.prog tyAt env0 133 fn F133 := ⟨Tryz.f133, Tryz.func133, fe133, by kernel_rfl, by kernel_rfl⟩
theorem ok134 : ∃ fn, FnGood Tryz.prog tyAt env0 134 fn F134 := ⟨Tryz.f134, Tryz.func134, fe134, by kernel_rfl, by kernel_rfl⟩
theorem ok135 : ∃ fn, FnGood Tryz.prog tyAt env0 135 fn F135 := ⟨Tryz.f135, Tryz.func135, fe135, by kernel_rfl, by kernel_rfl⟩
theorem ok144 : ∃ fn, FnGood Tryz.prog tyAt env0 144 fn F144 := ⟨Tryz.f144, Tryz.func144, fe144, by kernel_rfl, by kernel_rfl⟩
theorem ok145 : ∃ fn, FnGood Tryz.prog tyAt env0 145 fn F145 := ⟨Tryz.f145, Tryz.func145, fe145, by kernel_rfl, by kernel_rfl⟩
theorem ok146 : ∃ fn, FnGood Tryz.prog tyAt env0 146 fn F146 := ⟨Tryz.f146, Tryz.func146, fe146, by kernel_rfl, by kernel_rfl⟩
theorem ok147 : ∃ fn, FnGood Tryz.prog tyAt env0 147 fn F147 := ⟨Tryz.f147, Tryz.func147, fe147, by kernel_rfl, by kernel_rfl⟩
theorem ok148 : ∃ fn, FnGood Tryz.prog tyAt env0 148 fn F148 := ⟨Tryz.f148, Tryz.func148, fe148, by kernel_rfl, by kernel_rfl⟩
theorem ok149 : ∃ fn, FnGood Tryz.prog tyAt env0 149 fn F149 := ⟨Tryz.f149, Tryz.func149, fe149, by kernel_rfl, by kernel_rfl⟩
theorem ok150 : ∃ fn, FnGood Tryz.prog tyAt env0 150 fn F150 := ⟨Tryz.f150, Tryz.func150, fe150, by kernel_rfl, by kernel_rfl⟩
theorem ok151 : ∃ fn, FnGood Tryz.prog tyAt env0 151 fn F151 := ⟨Tryz.f151, Tryz.func151, fe151, by kernel_rfl, by kernel_rfl⟩
theorem ok152 : ∃ fn, FnGood Tryz.prog tyAt env0 152 fn F152 := ⟨Tryz.f152, Tryz.func152, fe152, by kernel_rfl, by kernel_rfl⟩
theorem ok153 : ∃ fn, FnGood Tryz.prog tyAt env0 153 fn F153 := ⟨Tryz.f153, Tryz.func153, fe153, by kernel_rfl, by kernel_rfl⟩
theorem ok154 : ∃ fn, FnGood Tryz.prog tyAt env0 154 fn F154 := ⟨Tryz.f154, Tryz.func154, fe154, by kernel_rfl, by kernel_rfl⟩
theorem ok155 : ∃ fn, FnGood Tryz.prog tyAt env0 155 fn F155 := ⟨Tryz.f155, Tryz.func155, fe155, by kernel_rfl, by kernel_rfl⟩
theorem ok156 : ∃ fn, FnGood Tryz.prog tyAt env0 156 fn F156 := ⟨Tryz.f156, Tryz.func156, fe156, by kernel_rfl, by kernel_rfl⟩
theorem ok158 : ∃ fn, FnGood Tryz.prog tyAt env0 158 fn F158 := ⟨Tryz.f158, Tryz.func158, fe158, by kernel_rfl, by kernel_rfl⟩
theorem ok159 : ∃ fn, FnGood Tryz.prog tyAt env0 159 fn F159 := ⟨Tryz.f159, Tryz.func159, fe159, by kernel_rfl, by kernel_rfl⟩
theorem ok160 : ∃ fn, FnGood Tryz.prog tyAt env0 160 fn F160 := ⟨Tryz.f160, Tryz.func160, fe160, by kernel_rfl, by kernel_rfl⟩
theorem ok161 : ∃ fn, FnGood Tryz.prog tyAt env0 161 fn F161 := ⟨Tryz.f161, Tryz.func161, fe161, by kernel_rfl, by kernel_rfl⟩
theorem ok162 : ∃ fn, FnGood Tryz.prog tyAt env0 162 fn F162 := ⟨Tryz.f162, Tryz.func162, fe162, by kernel_rfl, by kernel_rfl⟩
theorem ok163 : ∃ fn, FnGood Tryz.prog tyAt env0 163 fn F163 := ⟨Tryz.f163, Tryz.func163, fe163, by kernel_rfl, by kernel_rfl⟩
theorem ok164 : ∃ fn, FnGood Tryz.prog tyAt env0 164 fn F164 := ⟨Tryz.f164, Tryz.func164, fe164, by kernel_rfl, by kernel_rfl⟩
theorem ok165 : ∃ fn, FnGood Tryz.prog tyAt env0 165 fn F165 := ⟨Tryz.f165, Tryz.func165, fe165, by kernel_rfl, by kernel_rfl⟩
theorem ok166 : ∃ fn, FnGood Tryz.prog tyAt env0 166 fn F166 := ⟨Tryz.f166, Tryz.func166, fe166, by kernel_rfl, by kernel_rfl⟩
theorem ok167 : ∃ fn, FnGood Tryz.prog tyAt env0 167 fn F167 := ⟨Tryz.f167, Tryz.func167, fe167, by kernel_rfl, by kernel_rfl⟩
theorem ok168 : ∃ fn, FnGood Tryz.prog tyAt env0 168 fn F168 := ⟨Tryz.f168, Tryz.func168, fe168, by kernel_rfl, by kernel_rfl⟩
theorem ok169 : ∃ fn, FnGood Tryz.prog tyAt env0 169 fn F169 := ⟨Tryz.f169, Tryz.func169, fe169, by kernel_rfl, by kernel_rfl⟩
theorem ok170 : ∃ fn, FnGood Tryz.prog tyAt env0 170 fn F170 := ⟨Tryz.f170, Tryz.func170, fe170, by kernel_rfl, by kernel_rfl⟩
theorem ok171 : ∃ fn, FnGood Tryz.prog tyAt env0 171 fn F171 := ⟨Tryz.f171, Tryz.func171, fe171, by kernel_rfl, by kernel_rfl⟩
theorem ok172 : ∃ fn, FnGood Tryz.prog tyAt env0 172 fn F172 := ⟨Tryz.f172, Tryz.func172, fe172, by kernel_rfl, by kernel_rfl⟩
theorem ok173 : ∃ fn, FnGood Tryz.prog tyAt env0 173 fn F173 := ⟨Tryz.f173, Tryz.func173, fe173, by kernel_rfl, by kernel_rfl⟩
theorem ok174 : ∃ fn, FnGood Tryz.prog tyAt env0 174 fn F174 := ⟨Tryz.f174, Tryz.func174, fe174, by kernel_rfl, by kernel_rfl⟩
theorem ok175 : ∃ fn, FnGood Tryz.prog tyAt env0 175 fn F175 := ⟨Tryz.f175, Tryz.func175, fe175, by kernel_rfl, by kernel_rfl⟩
theorem ok176 : ∃ fn, FnGood Tryz.prog tyAt env0 176 fn F176 := ⟨Tryz.f176, Tryz.func176, fe176, by kernel_rfl, by kernel_rfl⟩
theorem ok183 : ∃ fn, FnGood Tryz.prog tyAt env0 183 fn F183 := ⟨Tryz.f183, Tryz.func183, fe183, by kernel_rfl, by kernel_rfl⟩
theorem ok184 : ∃ fn, FnGood Tryz.prog tyAt env0 184 fn F184 := ⟨Tryz.f184, Tryz.func184, fe184, by kernel_rfl, by kernel_rfl⟩
theorem ok185 : ∃ fn, FnGood Tryz.prog tyAt env0 185 fn F185 := ⟨Tryz.f185, Tryz.func185, fe185, by kernel_rfl, by kernel_rfl⟩
theorem ok186 : ∃ fn, FnGood Tryz.prog tyAt env0 186 fn F186 := ⟨Tryz.f186, Tryz.func186, fe186, by kernel_rfl, by kernel_rfl⟩
theorem ok187 : ∃ fn, FnGood Tryz.prog tyAt env0 187 fn F187 := ⟨Tryz.f187, Tryz.func187, fe187, by kernel_rfl, by kernel_rfl⟩
theorem ok188 : ∃ fn, FnGood Tryz.prog tyAt env0 188 fn F188 := ⟨Tryz.f188, Tryz.func188, fe188, by kernel_rfl, by kernel_rfl⟩
theorem ok191 : ∃ fn, FnGood Tryz.prog tyAt env0 191 fn F191 := ⟨Tryz.f191, Tryz.func191, fe191, by kernel_rfl, by kernel_rfl⟩
theorem ok192 : ∃ fn, FnGood Tryz.prog tyAt env0 192 fn F192 := ⟨Tryz.f192, Tryz.func192, fe192, by kernel_rfl, by kernel_rfl⟩
theorem ok193 : ∃ fn, FnGood Tryz.prog tyAt env0 193 fn F193 := ⟨Tryz.f193, Tryz.func193, fe193, by kernel_rfl, by kernel_rfl⟩
theorem ok200 : ∃ fn, FnGood Tryz.prog tyAt env0 200 fn F200 := ⟨Tryz.f200, Tryz.func200, fe200, by kernel_rfl, by kernel_rfl⟩
theorem ok201 : ∃ fn, FnGood Tryz.prog tyAt env0 201 fn F201 := ⟨Tryz.f201, Tryz.func201, fe201, by kernel_rfl, by kernel_rfl⟩
theorem ok202 : ∃ fn, FnGood Tryz.prog tyAt env0 202 fn F202 := ⟨Tryz.f202, Tryz.func202, fe202, by kernel_rfl, by kernel_rfl⟩
theorem ok203 : ∃ fn, FnGood Tryz.prog tyAt env0 203 fn F203 := ⟨Tryz.f203, Tryz.func203, fe203, by kernel_rfl, by kernel_rfl⟩
theorem ok204 : ∃ fn, FnGood Tryz.prog tyAt env0 204 fn F204 := ⟨Tryz.f204, Tryz.func204, fe204, by kernel_rfl, by kernel_rfl⟩
theorem ok206 : ∃ fn, FnGood Tryz.prog tyAt env0 206 fn F206 := ⟨Tryz.f206, Tryz.func206, fe206, by kernel_rfl, by kernel_rfl⟩
theorem ok207 : ∃ fn, FnGood Tryz.prog tyAt env0 207 fn F207 := ⟨Tryz.f207, Tryz.func207, fe207, by kernel_rfl, by kernel_rfl⟩
theorem ok208 : ∃ fn, FnGood Tryz.prog tyAt env0 208 fn F208 := ⟨Tryz.f208, Tryz.func208, fe208, by kernel_rfl, by kernel_rfl⟩
theorem ok209 : ∃ fn, FnGood Tryz.prog tyAt env0 209 fn F209 := ⟨Tryz.f209, Tryz.func209, fe209, by kernel_rfl, by kernel_rfl⟩
theorem ok210 : ∃ fn, FnGood Tryz.prog tyAt env0 210 fn F210 := ⟨Tryz.f210, Tryz.func210, fe210, by kernel_rfl, by kernel_rfl⟩
theorem ok211 : ∃ fn, FnGood Tryz.prog tyAt env0 211 fn F211 := ⟨Tryz.f211, Tryz.func211, fe211, by kernel_rfl, by kernel_rfl⟩
theorem ok212 : ∃ fn, FnGood Tryz.prog tyAt env0 212 fn F212 := ⟨Tryz.f212, Tryz.func212, fe212, by kernel_rfl, by kernel_rfl⟩
theorem ok215 : ∃ fn, FnGood Tryz.prog tyAt env0 215 fn F215 := ⟨Tryz.f215, Tryz.func215, fe215, by kernel_rfl, by kernel_rfl⟩
theorem ok217 : ∃ fn, FnGood Tryz.prog tyAt env0 217 fn F217 := ⟨Tryz.f217, Tryz.func217, fe217, by kernel_rfl, by kernel_rfl⟩
theorem ok218 : ∃ fn, FnGood Tryz.prog tyAt env0 218 fn F218 := ⟨Tryz.f218, Tryz.func218, fe218, by kernel_rfl, by kernel_rfl⟩
theorem ok220 : ∃ fn, FnGood Tryz.prog tyAt env0 220 fn F220 := ⟨Tryz.f220, Tryz.func220, fe220, by kernel_rfl, by kernel_rfl⟩
theorem ok222 : ∃ fn, FnGood Tryz.prog tyAt env0 222 fn F222 := ⟨Tryz.f222, Tryz.func222, fe222, by kernel_rfl, by kernel_rfl⟩
theorem ok226 : ∃ fn, FnGood Tryz.prog tyAt env0 226 fn F226 := ⟨Tryz.f226, Tryz.func226, fe226, by kernel_rfl, by kernel_rfl⟩
theorem ok227 : ∃ fn, FnGood Tryz.prog tyAt env0 227 fn F227 := ⟨Tryz.f227, Tryz.func227, fe227, by kernel_rfl, by kernel_rfl⟩
theorem ok228 : ∃ fn, FnGood Tryz.prog tyAt env0 228 fn F228 := ⟨Tryz.f228, Tryz.func228, fe228, by kernel_rfl, by kernel_rfl⟩
theorem ok229 : ∃ fn, FnGood Tryz.prog tyAt env0 229 fn F229 := ⟨Tryz.f229, Tryz.func229, fe229, by kernel_rfl, by kernel_rfl⟩
theorem ok231 : ∃ fn, FnGood Tryz.prog tyAt env0 231 fn F231 := ⟨Tryz.f231, Tryz.func231, fe231, by kernel_rfl, by kernel_rfl⟩
theorem ok232 : ∃ fn, FnGood Tryz.prog tyAt env0 232 fn F232 := ⟨Tryz.f232, Tryz.func232, fe232, by kernel_rfl, by kernel_rfl⟩
theorem ok233 : ∃ fn, FnGood Tryz.prog tyAt env0 233 fn F233 := ⟨Tryz.f233, Tryz.func233, fe233, by kernel_rfl, by kernel_rfl⟩
theorem ok234 : ∃ fn, FnGood Tryz.prog tyAt env0 234 fn F234 := ⟨Tryz.f234, Tryz.func234, fe234, by kernel_rfl, by kernel_rfl⟩
end Go.Sx
