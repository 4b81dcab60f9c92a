/-
  Each printed function is what the executor's compiler makes of the program's function.
-/
import Derived.Test.YtjliobdjggmfeaaGreatDoorFns3
import Derived.Test.YtjliobdjggmfeaaGreatDoorKA
import Derived.KernelRfl
set_option linter.unusedVariables false
set_option linter.unusedSimpArgs false
namespace Go.Sx
open Go.Proofs
theorem fe235 : fnOf tyAt env0 Tryz.f235 = some F235 := by kernel_rfl
theorem fe236 : fnOf tyAt env0 Tryz.f236 = some F236 := by kernel_rfl
theorem fe237 : fnOf tyAt env0 Tryz.f237 = some F237 := by kernel_rfl
theorem fe238 : fnOf tyAt env0 Tryz.f238 = some F238 := by kernel_rfl
theorem fe239 : fnOf tyAt env0 Tryz.f239 = some F239 := by kernel_rfl
theorem fe240 : fnOf tyAt env0 Tryz.f240 = some F240 := by kernel_rfl
theorem fe241 : fnOf tyAt env0 Tryz.f241 = some F241 := by kernel_rfl
theorem fe243 : fnOf tyAt env0 Tryz.f243 = some F243 := by kernel_rfl
theorem fe244 : fnOf tyAt env0 Tryz.f244 = some F244 := by kernel_rfl
theorem fe245 : fnOf tyAt env0 Tryz.f245 = some F245 := by kernel_rfl
theorem fe246 : fnOf tyAt env0 Tryz.f246 = some F246 := by kernel_rfl
theorem fe247 : fnOf tyAt env0 Tryz.f247 = some F247 := by kernel_rfl
theorem fe248 : fnOf tyAt env0 Tryz.f248 = some F248 := by kernel_rfl
theorem fe249 : fnOf tyAt env0 Tryz.f249 = some F249 := by kernel_rfl
theorem fe254 : fnOf tyAt env0 Tryz.f254 = some F254 := by kernel_rfl
theorem fe255 : fnOf tyAt env0 Tryz.f255 = some F255 := by kernel_rfl
theorem fe256 : fnOf tyAt env0 Tryz.f256 = some F256 := by kernel_rfl
theorem fe257 : fnOf tyAt env0 Tryz.f257 = some F257 := by kernel_rfl
theorem fe258 : fnOf tyAt env0 Tryz.f258 = some F258 := by kernel_rfl
theorem fe259 : fnOf tyAt env0 Tryz.f259 = some F259 := by kernel_rfl
theorem fe260 : fnOf tyAt env0 Tryz.f260 = some F260 := by kernel_rfl
theorem fe261 : fnOf tyAt env0 Tryz.f261 = some F261 := by kernel_rfl
theorem fe262 : fnOf tyAt env0 Tryz.f262 = some F262 := by kernel_rfl
theorem fe263 : fnOf tyAt env0 Tryz.f263 = some F263 := by kernel_rfl
theorem fe264 : fnOf tyAt env0 Tryz.f264 = some F264 := by kernel_rfl
theorem fe265 : fnOf tyAt env0 Tryz.f265 = some F265 := by kernel_rfl
theorem fe266 : fnOf tyAt env0 Tryz.f266 = some F266 := by kernel_rfl
theorem fe269 : fnOf tyAt env0 Tryz.f269 = some F269 := by kernel_rfl
theorem fe270 : fnOf tyAt env0 Tryz.f270 = some F270 := by kernel_rfl
theorem fe272 : fnOf tyAt env0 Tryz.f272 = some F272 := by kernel_rfl
theorem fe273 : fnOf tyAt env0 Tryz.f273 = some F273 := by kernel_rfl
theorem fe274 : fnOf tyAt env0 Tryz.f274 = some F274 := by kernel_rfl
theorem fe275 : fnOf tyAt env0 Tryz.f275 = some F275 := by kernel_rfl
theorem fe276 : fnOf tyAt env0 Tryz.f276 = some F276 := by kernel_rfl
theorem fe277 : fnOf tyAt env0 Tryz.f277 = some F277 := by kernel_rfl
theorem fe278 : fnOf tyAt env0 Tryz.f278 = some F278 := by kernel_rfl
theorem fe285 : fnOf tyAt env0 Tryz.f285 = some F285 := by kernel_rfl
theorem fe286 : fnOf tyAt env0 Tryz.f286 = some F286 := by kernel_rfl
theorem fe287 : fnOf tyAt env0 Tryz.f287 = some F287 := by kernel_rfl
theorem fe290 : fnOf tyAt env0 Tryz.f290 = some F290 := by kernel_rfl
theorem fe291 : fnOf tyAt env0 Tryz.f291 = some F291 := by kernel_rfl
theorem fe292 : fnOf tyAt env0 Tryz.f292 = some F292 := by kernel_rfl
theorem fe293 : fnOf tyAt env0 Tryz.f293 = some F293 := by kernel_rfl
theorem fe294 : fnOf tyAt env0 Tryz.f294 = some F294 := by kernel_rfl
theorem fe296 : fnOf tyAt env0 Tryz.f296 = some F296 := by kernel_rfl
theorem fe297 : fnOf tyAt env0 Tryz.f297 = some F297 := by kernel_rfl
theorem fe301 : fnOf tyAt env0 Tryz.f301 = some F301 := by kernel_rfl
theorem fe303 : fnOf tyAt env0 Tryz.f303 = some F303 := by kernel_rfl
end Go.Sx

namespace Go.Sx
open Go.Proofs
theorem ok235 : ∃ fn, FnGood Tryz.prog tyAt env0 235 fn F235 := ⟨Tryz.f235, Tryz.func235, fe235, by kernel_rfl, by kernel_rfl⟩
theorem ok236 : ∃ fn, FnGood Tryz.prog tyAt env0 236 fn F236 := ⟨Tryz.f236, Tryz.func236, fe236, by kernel_rfl, by kernel_rfl⟩
theorem ok237 : ∃ fn, FnGood Tryz.prog tyAt env0 237 fn F237 := ⟨Tryz.f237, Tryz.func237, fe237, by kernel_rfl, by kernel_rfl⟩
theorem ok238 : ∃ fn, FnGood Tryz.prog tyAt env0 238 fn F238 := ⟨Tryz.f238, Tryz.func238, fe238, by kernel_rfl, by kernel_rfl⟩
theorem ok239 : ∃ fn, FnGood Tryz.prog tyAt env0 239 fn F239 := ⟨Tryz.f239, Tryz.func239, fe239, by kernel_rfl, by kernel_rfl⟩
theorem ok240 : ∃ fn, FnGood Tryz.prog tyAt env0 240 fn F240 := ⟨Tryz.f240, Tryz.func240, fe240, by kernel_rfl, by kernel_rfl⟩
theorem ok241 : ∃ fn, FnGood Tryz.prog tyAt env0 241 fn F241 := ⟨Tryz.f241, Tryz.func241, fe241, by kernel_rfl, by kernel_rfl⟩
theorem ok243 : ∃ fn, FnGood Tryz.prog tyAt env0 243 fn F243 := ⟨Tryz.f243, Tryz.func243, fe243, by kernel_rfl, by kernel_rfl⟩
theorem ok244 : ∃ fn, FnGood Tryz.prog tyAt env0 244 fn F244 := ⟨Tryz.f244, Tryz.func244, fe244, by kernel_rfl, by kernel_rfl⟩
theorem ok245 : ∃ fn, FnGood Tryz.prog tyAt env0 245 fn F245 := ⟨Tryz.f245, Tryz.func245, fe245, by kernel_rfl, by kernel_rfl⟩
theorem ok246 : ∃ fn, FnGood Tryz.prog tyAt env0 246 fn F246 := ⟨Tryz.f246, Tryz.func246, fe246, by kernel_rfl, by kernel_rfl⟩
theorem ok247 : ∃ fn, FnGood Tryz.prog tyAt env0 247 fn F247 := ⟨Tryz.f247, Tryz.func247, fe247, by kernel_rfl, by kernel_rfl⟩
theorem ok248 : ∃ fn, FnGood Tryz.prog tyAt env0 248 fn F248 := ⟨Tryz.f248, Tryz.func248, fe248, by kernel_rfl, by kernel_rfl⟩
theorem ok249 : ∃ fn, FnGood Tryz.prog tyAt env0 249 fn F249 := ⟨Tryz.f249, Tryz.func249, fe249, by kernel_rfl, by kernel_rfl⟩
theorem ok254 : ∃ fn, FnGood Tryz.prog tyAt env0 254 fn F254 := ⟨Tryz.f254, Tryz.func254, fe254, by kernel_rfl, by kernel_rfl⟩
theorem ok255 : ∃ fn, FnGood Tryz.prog tyAt env0 255 fn F255 := ⟨Tryz.f255, Tryz.func255, fe255, by kernel_rfl, by kernel_rfl⟩
theorem ok256 : ∃ fn, FnGood Tryz.prog tyAt env0 256 fn F256 := ⟨Tryz.f256, Tryz.func256, fe256, by kernel_rfl, by kernel_rfl⟩
theorem ok257 : ∃ fn, FnGood Tryz.prog tyAt env0 257 fn F257 := ⟨Tryz.f257, Tryz.func257, fe257, by kernel_rfl, by kernel_rfl⟩
theorem ok258 : ∃ fn, FnGood Tryz.prog tyAt env0 258 fn F258 := ⟨Tryz.f258, Tryz.func258, fe258, by kernel_rfl, by kernel_rfl⟩
theorem ok259 : ∃ fn, FnGood Tryz.prog tyAt env0 259 fn F259 := ⟨Tryz.f259, Tryz.func259, fe259, by kernel_rfl, by kernel_rfl⟩
theorem ok260 : ∃ fn, FnGood Tryz.prog tyAt env0 260 fn F260 := ⟨Tryz.f260, Tryz.func260, fe260, by kernel_rfl, by kernel_rfl⟩
theorem ok261 : ∃ fn, FnGood Tryz.prog tyAt env0 261 fn F261 := ⟨Tryz.f261, Tryz.func261, fe261, by kernel_rfl, by kernel_rfl⟩
theorem ok262 : ∃ fn, FnGood Tryz.prog tyAt env0 262 fn F262 := ⟨Tryz.f262, Tryz.func262, fe262, by kernel_rfl, by kernel_rfl⟩
theorem ok263 : ∃ fn, FnGood Tryz.prog tyAt env0 263 fn F263 := ⟨Tryz.f263, Tryz.func263, fe263, by kernel_rfl, by kernel_rfl⟩
theorem ok264 : ∃ fn, FnGood Tryz.prog tyAt env0 264 fn F264 := ⟨Tryz.f264, Tryz.func264, fe264, by kernel_rfl, by kernel_rfl⟩
theorem ok265 : ∃ fn, FnGood Tryz.prog tyAt env0 265 fn F265 := ⟨Tryz.f265, Tryz.func265, fe265, by kernel_rfl, by kernel_rfl⟩
theorem ok266 : ∃ fn, FnGood Tryz.prog tyAt env0 266 fn F266 := ⟨Tryz.f266, Tryz.func266, fe266, by kernel_rfl, by kernel_rfl⟩
theorem ok269 : ∃ fn, FnGood Tryz.prog tyAt env0 269 fn F269 := ⟨Tryz.f269, Tryz.func269, fe269, by kernel_rfl, by kernel_rfl⟩
theorem ok270 : ∃ fn, FnGood Tryz.prog tyAt env0 270 fn F270 := ⟨Tryz.f270, Tryz.func270, fe270, by kernel_rfl, by kernel_rfl⟩
theorem ok272 : ∃ fn, FnGood Tryz.prog tyAt env0 272 fn F272 := ⟨Tryz.f272, Tryz.func272, fe272, by kernel_rfl, by kernel_rfl⟩
theorem ok273 : ∃ fn, FnGood Tryz.prog tyAt env0 273 fn F273 := ⟨Tryz.f273, Tryz.func273, fe273, by kernel_rfl, by kernel_rfl⟩
theorem ok274 : ∃ fn, FnGood Tryz.prog tyAt env0 274 fn F274 := ⟨Tryz.f274, Tryz.func274, fe274, by kernel_rfl, by kernel_rfl⟩
theorem ok275 : ∃ fn, FnGood Tryz.prog tyAt env0 275 fn F275 := ⟨Tryz.f275, Tryz.func275, fe275, by kernel_rfl, by kernel_rfl⟩
theorem ok276 : ∃ fn, FnGood Tryz.prog tyAt env0 276 fn F276 := ⟨Tryz.f276, Tryz.func276, fe276, by kernel_rfl, by kernel_rfl⟩
theorem ok277 : ∃ fn, FnGood Tryz.prog tyAt env0 277 fn F277 := ⟨Tryz.f277, Tryz.func277, fe277, by kernel_rfl, by kernel_rfl⟩
theorem ok278 : ∃ fn, FnGood Tryz.prog tyAt env0 278 fn F278 := ⟨Tryz.f278, Tryz.func278, fe278, by kernel_rfl, by kernel_rfl⟩
theorem ok285 : ∃ fn, FnGood Tryz.prog tyAt env0 285 fn F285 := ⟨Tryz.f285, Tryz.func285, fe285, by kernel_rfl, by kernel_rfl⟩
theorem ok286 : ∃ fn, FnGood Tryz.prog tyAt env0 286 fn F286 := ⟨Tryz.f286, Tryz.func286, fe286, by kernel_rfl, by kernel_rfl⟩
theorem ok287 : ∃ fn, FnGood Tryz.prog tyAt env0 287 fn F287 := ⟨Tryz.f287, Tryz.func287, fe287, by kernel_rfl, by kernel_rfl⟩
theorem ok290 : ∃ fn, FnGood Tryz.prog tyAt env0 290 fn F290 := ⟨Tryz.f290, Tryz.func290, fe290, by kernel_rfl, by kernel_rfl⟩
theorem ok291 : ∃ fn, FnGood Tryz.prog tyAt env0 291 fn F291 := ⟨Tryz.f291, Tryz.func291, fe291, by kernel_rfl, by kernel_rfl⟩
theorem ok292 : ∃ fn, FnGood Tryz.prog tyAt env0 292 fn F292 := ⟨Tryz.f292, Tryz.func292, fe292, by kernel_rfl, by kernel_rfl⟩
theorem ok293 : ∃ fn, FnGood Tryz.prog tyAt env0 293 fn F293 := ⟨Tryz.f293, Tryz.func293, fe293, by kernel_rfl, by kernel_rfl⟩
theorem ok294 : ∃ fn, FnGood Tryz.prog tyAt env0 294 fn F294 := ⟨Tryz.f294, Tryz.func294, fe294, by kernel_rfl, by kernel_rfl⟩
theorem ok296 : ∃ fn, FnGood Tryz.prog tyAt env0 296 fn F296 := ⟨Tryz.f296, Tryz.func296, fe296, by kernel_rfl, by kernel_rfl⟩
theorem ok297 : ∃ fn, FnGood Tryz.prog tyAt env0 297 fn F297 := ⟨Tryz.f297, Tryz.func297, fe297, by kernel_rfl, by kernel_rfl⟩
theorem ok301 : ∃ fn, FnGood Tryz.prog tyAt env0 301 fn F301 := ⟨Tryz.f301, Tryz.func301, fe301, by kernel_rfl, by kernel_rfl⟩
theorem ok303 : ∃ fn, FnGood Tryz.prog tyAt env0 303 fn F303 := ⟨Tryz.f303, Tryz.func303, fe303, by kernel_rfl, by kernel_rfl⟩
end Go.Sx
