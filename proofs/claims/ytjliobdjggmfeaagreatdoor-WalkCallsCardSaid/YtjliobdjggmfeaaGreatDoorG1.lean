/-
  Each printed function is what the executor's compiler makes of the program's function.
-/
import Derived.Test.YtjliobdjggmfeaaGreatDoorFns1
import Derived.Test.YtjliobdjggmfeaaGreatDoorKA
import Derived.KernelRfl
set_option linter.unusedVariables false
set_option linter.unusedSimpArgs false
namespace Go.Sx
open Go.Proofs
theorem fe6 : fnOf tyAt env0 Tryz.f6 = some F6 := by kernel_rfl
theorem fe12 : fnOf tyAt env0 Tryz.f12 = some F12 := by kernel_rfl
theorem fe13 : fnOf tyAt env0 Tryz.f13 = some F13 := by kernel_rfl
theorem fe15 : fnOf tyAt env0 Tryz.f15 = some F15 := by kernel_rfl
theorem fe16 : fnOf tyAt env0 Tryz.f16 = some F16 := by kernel_rfl
theorem fe18 : fnOf tyAt env0 Tryz.f18 = some F18 := by kernel_rfl
theorem fe19 : fnOf tyAt env0 Tryz.f19 = some F19 := by kernel_rfl
theorem fe23 : fnOf tyAt env0 Tryz.f23 = some F23 := by kernel_rfl
theorem fe24 : fnOf tyAt env0 Tryz.f24 = some F24 := by kernel_rfl
theorem fe25 : fnOf tyAt env0 Tryz.f25 = some F25 := by kernel_rfl
theorem fe26 : fnOf tyAt env0 Tryz.f26 = some F26 := by kernel_rfl
theorem fe27 : fnOf tyAt env0 Tryz.f27 = some F27 := by kernel_rfl
theorem fe28 : fnOf tyAt env0 Tryz.f28 = some F28 := by kernel_rfl
theorem fe30 : fnOf tyAt env0 Tryz.f30 = some F30 := by kernel_rfl
theorem fe31 : fnOf tyAt env0 Tryz.f31 = some F31 := by kernel_rfl
theorem fe32 : fnOf tyAt env0 Tryz.f32 = some F32 := by kernel_rfl
theorem fe34 : fnOf tyAt env0 Tryz.f34 = some F34 := by kernel_rfl
theorem fe36 : fnOf tyAt env0 Tryz.f36 = some F36 := by kernel_rfl
theorem fe37 : fnOf tyAt env0 Tryz.f37 = some F37 := by kernel_rfl
theorem fe38 : fnOf tyAt env0 Tryz.f38 = some F38 := by kernel_rfl
theorem fe39 : fnOf tyAt env0 Tryz.f39 = some F39 := by kernel_rfl
theorem fe40 : fnOf tyAt env0 Tryz.f40 = some F40 := by kernel_rfl
theorem fe41 : fnOf tyAt env0 Tryz.f41 = some F41 := by kernel_rfl
theorem fe42 : fnOf tyAt env0 Tryz.f42 = some F42 := by kernel_rfl
theorem fe44 : fnOf tyAt env0 Tryz.f44 = some F44 := by kernel_rfl
theorem fe45 : fnOf tyAt env0 Tryz.f45 = some F45 := by kernel_rfl
theorem fe47 : fnOf tyAt env0 Tryz.f47 = some F47 := by kernel_rfl
theorem fe48 : fnOf tyAt env0 Tryz.f48 = some F48 := by kernel_rfl
theorem fe49 : fnOf tyAt env0 Tryz.f49 = some F49 := by kernel_rfl
theorem fe50 : fnOf tyAt env0 Tryz.f50 = some F50 := by kernel_rfl
theorem fe51 : fnOf tyAt env0 Tryz.f51 = some F51 := by kernel_rfl
theorem fe52 : fnOf tyAt env0 Tryz.f52 = some F52 := by kernel_rfl
theorem fe56 : fnOf tyAt env0 Tryz.f56 = some F56 := by kernel_rfl
theorem fe57 : fnOf tyAt env0 Tryz.f57 = some F57 := by kernel_rfl
theorem fe58 : fnOf tyAt env0 Tryz.f58 = some F58 := by kernel_rfl
theorem fe59 : fnOf tyAt env0 Tryz.f59 = some F59 := by kernel_rfl
theorem fe60 : fnOf tyAt env0 Tryz.f60 = some F60 := by kernel_rfl
theorem fe61 : fnOf tyAt env0 Tryz.f61 = some F61 := by kernel_rfl
theorem fe62 : fnOf tyAt env0 Tryz.f62 = some F62 := by kernel_rfl
theorem fe63 : fnOf tyAt env0 Tryz.f63 = some F63 := by kernel_rfl
theorem fe64 : fnOf tyAt env0 Tryz.f64 = some F64 := by kernel_rfl
theorem fe65 : fnOf tyAt env0 Tryz.f65 = some F65 := by kernel_rfl
theorem fe66 : fnOf tyAt env0 Tryz.f66 = some F66 := by kernel_rfl
theorem fe67 : fnOf tyAt env0 Tryz.f67 = some F67 := by kernel_rfl
theorem fe68 : fnOf tyAt env0 Tryz.f68 = some F68 := by kernel_rfl
theorem fe69 : fnOf tyAt env0 Tryz.f69 = some F69 := by kernel_rfl
theorem fe70 : fnOf tyAt env0 Tryz.f70 = some F70 := by kernel_rfl
theorem fe72 : fnOf tyAt env0 Tryz.f72 = some F72 := by kernel_rfl
theorem fe73 : fnOf tyAt env0 Tryz.f73 = some F73 := by kernel_rfl
theorem fe74 : fnOf tyAt env0 Tryz.f74 = some F74 := by kernel_rfl
theorem fe75 : fnOf tyAt env0 Tryz.f75 = some F75 := by kernel_rfl
theorem fe76 : fnOf tyAt env0 Tryz.f76 = some F76 := by kernel_rfl
theorem fe77 : fnOf tyAt env0 Tryz.f77 = some F77 := by kernel_rfl
theorem fe78 : fnOf tyAt env0 Tryz.f78 = some F78 := by kernel_rfl
theorem fe79 : fnOf tyAt env0 Tryz.f79 = some F79 := by kernel_rfl
theorem fe80 : fnOf tyAt env0 Tryz.f80 = some F80 := by kernel_rfl
theorem fe81 : fnOf tyAt env0 Tryz.f81 = some F81 := by kernel_rfl
theorem fe82 : fnOf tyAt env0 Tryz.f82 = some F82 := by kernel_rfl
theorem fe83 : fnOf tyAt env0 Tryz.f83 = some F83 := by kernel_rfl
theorem fe84 : fnOf tyAt env0 Tryz.f84 = some F84 := by kernel_rfl
theorem fe85 : fnOf tyAt env0 Tryz.f85 = some F85 := by kernel_rfl
theorem fe86 : fnOf tyAt env0 Tryz.f86 = some F86 := by kernel_rfl
theorem fe88 : fnOf tyAt env0 Tryz.f88 = some F88 := by kernel_rfl
theorem fe89 : fnOf tyAt env0 Tryz.f89 = some F89 := by kernel_rfl
theorem fe90 : fnOf tyAt env0 Tryz.f90 = some F90 := by kernel_rfl
theorem fe91 : fnOf tyAt env0 Tryz.f91 = some F91 := by kernel_rfl
theorem fe92 : fnOf tyAt env0 Tryz.f92 = some F92 := by kernel_rfl
theorem fe93 : fnOf tyAt env0 Tryz.f93 = some F93 := by kernel_rfl
theorem fe94 : fnOf tyAt env0 Tryz.f94 = some F94 := by kernel_rfl
theorem fe95 : fnOf tyAt env0 Tryz.f95 = some F95 := by kernel_rfl
theorem fe96 : fnOf tyAt env0 Tryz.f96 = some F96 := by kernel_rfl
theorem fe97 : fnOf tyAt env0 Tryz.f97 = some F97 := by kernel_rfl
theorem fe98 : fnOf tyAt env0 Tryz.f98 = some F98 := by kernel_rfl
theorem fe99 : fnOf tyAt env0 Tryz.f99 = some F99 := by kernel_rfl
theorem fe100 : fnOf tyAt env0 Tryz.f100 = some F100 := by kernel_rfl
theorem fe101 : fnOf tyAt env0 Tryz.f101 = some F101 := by kernel_rfl
theorem fe102 : fnOf tyAt env0 Tryz.f102 = some F102 := by kernel_rfl
end Go.Sx

namespace Go.Sx
open Go.Proofs
theorem ok6 : ∃ fn, FnGood Tryz.prog tyAt env0 6 fn F6 := ⟨Tryz.f6, Tryz.func6, fe6, by kernel_rfl, by kernel_rfl⟩
theorem ok12 : ∃ fn, FnGood Tryz.prog tyAt env0 12 fn F12 := ⟨Tryz.f12, Tryz.func12, fe12, by kernel_rfl, by kernel_rfl⟩
theorem ok13 : ∃ fn, FnGood Tryz.prog tyAt env0 13 fn F13 := ⟨Tryz.f13, Tryz.func13, fe13, by kernel_rfl, by kernel_rfl⟩
theorem ok15 : ∃ fn, FnGood Tryz.prog tyAt env0 15 fn F15 := ⟨Tryz.f15, Tryz.func15, fe15, by kernel_rfl, by kernel_rfl⟩
theorem ok16 : ∃ fn, FnGood Tryz.prog tyAt env0 16 fn F16 := ⟨Tryz.f16, Tryz.func16, fe16, by kernel_rfl, by kernel_rfl⟩
theorem ok18 : ∃ fn, FnGood Tryz.prog tyAt env0 18 fn F18 := ⟨Tryz.f18, Tryz.func18, fe18, by kernel_rfl, by kernel_rfl⟩
theorem ok19 : ∃ fn, FnGood Tryz.prog tyAt env0 19 fn F19 := ⟨Tryz.f19, Tryz.func19, fe19, by kernel_rfl, by kernel_rfl⟩
theorem ok23 : ∃ fn, FnGood Tryz.prog tyAt env0 23 fn F23 := ⟨Tryz.f23, Tryz.func23, fe23, by kernel_rfl, by kernel_rfl⟩
theorem ok24 : ∃ fn, FnGood Tryz.prog tyAt env0 24 fn F24 := ⟨Tryz.f24, Tryz.func24, fe24, by kernel_rfl, by kernel_rfl⟩
theorem ok25 : ∃ fn, FnGood Tryz.prog tyAt env0 25 fn F25 := ⟨Tryz.f25, Tryz.func25, fe25, by kernel_rfl, by kernel_rfl⟩
theorem ok26 : ∃ fn, FnGood Tryz.prog tyAt env0 26 fn F26 := ⟨Tryz.f26, Tryz.func26, fe26, by kernel_rfl, by kernel_rfl⟩
theorem ok27 : ∃ fn, FnGood Tryz.prog tyAt env0 27 fn F27 := ⟨Tryz.f27, Tryz.func27, fe27, by kernel_rfl, by kernel_rfl⟩
theorem ok28 : ∃ fn, FnGood Tryz.prog tyAt env0 28 fn F28 := ⟨Tryz.f28, Tryz.func28, fe28, by kernel_rfl, by kernel_rfl⟩
theorem ok30 : ∃ fn, FnGood Tryz.prog tyAt env0 30 fn F30 := ⟨Tryz.f30, Tryz.func30, fe30, by kernel_rfl, by kernel_rfl⟩
theorem ok31 : ∃ fn, FnGood Tryz.prog tyAt env0 31 fn F31 := ⟨Tryz.f31, Tryz.func31, fe31, by kernel_rfl, by kernel_rfl⟩
theorem ok32 : ∃ fn, FnGood Tryz.prog tyAt env0 32 fn F32 := ⟨Tryz.f32, Tryz.func32, fe32, by kernel_rfl, by kernel_rfl⟩
theorem ok34 : ∃ fn, FnGood Tryz.prog tyAt env0 34 fn F34 := ⟨Tryz.f34, Tryz.func34, fe34, by kernel_rfl, by kernel_rfl⟩
theorem ok36 : ∃ fn, FnGood Tryz.prog tyAt env0 36 fn F36 := ⟨Tryz.f36, Tryz.func36, fe36, by kernel_rfl, by kernel_rfl⟩
theorem ok37 : ∃ fn, FnGood Tryz.prog tyAt env0 37 fn F37 := ⟨Tryz.f37, Tryz.func37, fe37, by kernel_rfl, by kernel_rfl⟩
theorem ok38 : ∃ fn, FnGood Tryz.prog tyAt env0 38 fn F38 := ⟨Tryz.f38, Tryz.func38, fe38, by kernel_rfl, by kernel_rfl⟩
theorem ok39 : ∃ fn, FnGood Tryz.prog tyAt env0 39 fn F39 := ⟨Tryz.f39, Tryz.func39, fe39, by kernel_rfl, by kernel_rfl⟩
theorem ok40 : ∃ fn, FnGood Tryz.prog tyAt env0 40 fn F40 := ⟨Tryz.f40, Tryz.func40, fe40, by kernel_rfl, by kernel_rfl⟩
theorem ok41 : ∃ fn, FnGood Tryz.prog tyAt env0 41 fn F41 := ⟨Tryz.f41, Tryz.func41, fe41, by kernel_rfl, by kernel_rfl⟩
theorem ok42 : ∃ fn, FnGood Tryz.prog tyAt env0 42 fn F42 := ⟨Tryz.f42, Tryz.func42, fe42, by kernel_rfl, by kernel_rfl⟩
theorem ok44 : ∃ fn, FnGood Tryz.prog tyAt env0 44 fn F44 := ⟨Tryz.f44, Tryz.func44, fe44, by kernel_rfl, by kernel_rfl⟩
theorem ok45 : ∃ fn, FnGood Tryz.prog tyAt env0 45 fn F45 := ⟨Tryz.f45, Tryz.func45, fe45, by kernel_rfl, by kernel_rfl⟩
theorem ok47 : ∃ fn, FnGood Tryz.prog tyAt env0 47 fn F47 := ⟨Tryz.f47, Tryz.func47, fe47, by kernel_rfl, by kernel_rfl⟩
theorem ok48 : ∃ fn, FnGood Tryz.prog tyAt env0 48 fn F48 := ⟨Tryz.f48, Tryz.func48, fe48, by kernel_rfl, by kernel_rfl⟩
theorem ok49 : ∃ fn, FnGood Tryz.prog tyAt env0 49 fn F49 := ⟨Tryz.f49, Tryz.func49, fe49, by kernel_rfl, by kernel_rfl⟩
theorem ok50 : ∃ fn, FnGood Tryz.prog tyAt env0 50 fn F50 := ⟨Tryz.f50, Tryz.func50, fe50, by kernel_rfl, by kernel_rfl⟩
theorem ok51 : ∃ fn, FnGood Tryz.prog tyAt env0 51 fn F51 := ⟨Tryz.f51, Tryz.func51, fe51, by kernel_rfl, by kernel_rfl⟩
theorem ok52 : ∃ fn, FnGood Tryz.prog tyAt env0 52 fn F52 := ⟨Tryz.f52, Tryz.func52, fe52, by kernel_rfl, by kernel_rfl⟩
theorem ok56 : ∃ fn, FnGood Tryz.prog tyAt env0 56 fn F56 := ⟨Tryz.f56, Tryz.func56, fe56, by kernel_rfl, by kernel_rfl⟩
theorem ok57 : ∃ fn, FnGood Tryz.prog tyAt env0 57 fn F57 := ⟨Tryz.f57, Tryz.func57, fe57, by kernel_rfl, by kernel_rfl⟩
theorem ok58 : ∃ fn, FnGood Tryz.prog tyAt env0 58 fn F58 := ⟨Tryz.f58, Tryz.func58, fe58, by kernel_rfl, by kernel_rfl⟩
theorem ok59 : ∃ fn, FnGood Tryz.prog tyAt env0 59 fn F59 := ⟨Tryz.f59, Tryz.func59, fe59, by kernel_rfl, by kernel_rfl⟩
theorem ok60 : ∃ fn, FnGood Tryz.prog tyAt env0 60 fn F60 := ⟨Tryz.f60, Tryz.func60, fe60, by kernel_rfl, by kernel_rfl⟩
theorem ok61 : ∃ fn, FnGood Tryz.prog tyAt env0 61 fn F61 := ⟨Tryz.f61, Tryz.func61, fe61, by kernel_rfl, by kernel_rfl⟩
theorem ok62 : ∃ fn, FnGood Tryz.prog tyAt env0 62 fn F62 := ⟨Tryz.f62, Tryz.func62, fe62, by kernel_rfl, by kernel_rfl⟩
theorem ok63 : ∃ fn, FnGood Tryz.prog tyAt env0 63 fn F63 := ⟨Tryz.f63, Tryz.func63, fe63, by kernel_rfl, by kernel_rfl⟩
theorem ok64 : ∃ fn, FnGood Tryz.prog tyAt env0 64 fn F64 := ⟨Tryz.f64, Tryz.func64, fe64, by kernel_rfl, by kernel_rfl⟩
theorem ok65 : ∃ fn, FnGood Tryz.prog tyAt env0 65 fn F65 := ⟨Tryz.f65, Tryz.func65, fe65, by kernel_rfl, by kernel_rfl⟩
theorem ok66 : ∃ fn, FnGood Tryz.prog tyAt env0 66 fn F66 := ⟨Tryz.f66, Tryz.func66, fe66, by kernel_rfl, by kernel_rfl⟩
theorem ok67 : ∃ fn, FnGood Tryz.prog tyAt env0 67 fn F67 := ⟨Tryz.f67, Tryz.func67, fe67, by kernel_rfl, by kernel_rfl⟩
theorem ok68 : ∃ fn, FnGood Tryz.prog tyAt env0 68 fn F68 := ⟨Tryz.f68, Tryz.func68, fe68, by kernel_rfl, by kernel_rfl⟩
theorem ok69 : ∃ fn, FnGood Tryz.prog tyAt env0 69 fn F69 := ⟨Tryz.f69, Tryz.func69, fe69, by kernel_rfl, by kernel_rfl⟩
theorem ok70 : ∃ fn, FnGood Tryz.prog tyAt env0 70 fn F70 := ⟨Tryz.f70, Tryz.func70, fe70, by kernel_rfl, by kernel_rfl⟩
theorem ok72 : ∃ fn, FnGood Tryz.prog tyAt env0 72 fn F72 := ⟨Tryz.f72, Tryz.func72, fe72, by kernel_rfl, by kernel_rfl⟩
theorem ok73 : ∃ fn, FnGood Tryz.prog tyAt env0 73 fn F73 := ⟨Tryz.f73, Tryz.func73, fe73, by kernel_rfl, by kernel_rfl⟩
theorem ok74 : ∃ fn, FnGood Tryz.prog tyAt env0 74 fn F74 := ⟨Tryz.f74, Tryz.func74, fe74, by kernel_rfl, by kernel_rfl⟩
theorem ok75 : ∃ fn, FnGood Tryz.prog tyAt env0 75 fn F75 := ⟨Tryz.f75, Tryz.func75, fe75, by kernel_rfl, by kernel_rfl⟩
theorem ok76 : ∃ fn, FnGood Tryz.prog tyAt env0 76 fn F76 := ⟨Tryz.f76, Tryz.func76, fe76, by kernel_rfl, by kernel_rfl⟩
theorem ok77 : ∃ fn, FnGood Tryz.prog tyAt env0 77 fn F77 := ⟨Tryz.f77, Tryz.func77, fe77, by kernel_rfl, by kernel_rfl⟩
theorem ok78 : ∃ fn, FnGood Tryz.prog tyAt env0 78 fn F78 := ⟨Tryz.f78, Tryz.func78, fe78, by kernel_rfl, by kernel_rfl⟩
theorem ok79 : ∃ fn, FnGood Tryz.prog tyAt env0 79 fn F79 := ⟨Tryz.f79, Tryz.func79, fe79, by kernel_rfl, by kernel_rfl⟩
theorem ok80 : ∃ fn, FnGood Tryz.prog tyAt env0 80 fn F80 := ⟨Tryz.f80, Tryz.func80, fe80, by kernel_rfl, by kernel_rfl⟩
theorem ok81 : ∃ fn, FnGood Tryz.prog tyAt env0 81 fn F81 := ⟨Tryz.f81, Tryz.func81, fe81, by kernel_rfl, by kernel_rfl⟩
theorem ok82 : ∃ fn, FnGood Tryz.prog tyAt env0 82 fn F82 := ⟨Tryz.f82, Tryz.func82, fe82, by kernel_rfl, by kernel_rfl⟩
theorem ok83 : ∃ fn, FnGood Tryz.prog tyAt env0 83 fn F83 := ⟨Tryz.f83, Tryz.func83, fe83, by kernel_rfl, by kernel_rfl⟩
theorem ok84 : ∃ fn, FnGood Tryz.prog tyAt env0 84 fn F84 := ⟨Tryz.f84, Tryz.func84, fe84, by kernel_rfl, by kernel_rfl⟩
theorem ok85 : ∃ fn, FnGood Tryz.prog tyAt env0 85 fn F85 := ⟨Tryz.f85, Tryz.func85, fe85, by kernel_rfl, by kernel_rfl⟩
theorem ok86 : ∃ fn, FnGood Tryz.prog tyAt env0 86 fn F86 := ⟨Tryz.f86, Tryz.func86, fe86, by kernel_rfl, by kernel_rfl⟩
theorem ok88 : ∃ fn, FnGood Tryz.prog tyAt env0 88 fn F88 := ⟨Tryz.f88, Tryz.func88, fe88, by kernel_rfl, by kernel_rfl⟩
theorem ok89 : ∃ fn, FnGood Tryz.prog tyAt env0 89 fn F89 := ⟨Tryz.f89, Tryz.func89, fe89, by kernel_rfl, by kernel_rfl⟩
theorem ok90 : ∃ fn, FnGood Tryz.prog tyAt env0 90 fn F90 := ⟨Tryz.f90, Tryz.func90, fe90, by kernel_rfl, by kernel_rfl⟩
theorem ok91 : ∃ fn, FnGood Tryz.prog tyAt env0 91 fn F91 := ⟨Tryz.f91, Tryz.func91, fe91, by kernel_rfl, by kernel_rfl⟩
theorem ok92 : ∃ fn, FnGood Tryz.prog tyAt env0 92 fn F92 := ⟨Tryz.f92, Tryz.func92, fe92, by kernel_rfl, by kernel_rfl⟩
theorem ok93 : ∃ fn, FnGood Tryz.prog tyAt env0 93 fn F93 := ⟨Tryz.f93, Tryz.func93, fe93, by kernel_rfl, by kernel_rfl⟩
theorem ok94 : ∃ fn, FnGood Tryz.prog tyAt env0 94 fn F94 := ⟨Tryz.f94, Tryz.func94, fe94, by kernel_rfl, by kernel_rfl⟩
theorem ok95 : ∃ fn, FnGood Tryz.prog tyAt env0 95 fn F95 := ⟨Tryz.f95, Tryz.func95, fe95, by kernel_rfl, by kernel_rfl⟩
theorem ok96 : ∃ fn, FnGood Tryz.prog tyAt env0 96 fn F96 := ⟨Tryz.f96, Tryz.func96, fe96, by kernel_rfl, by kernel_rfl⟩
theorem ok97 : ∃ fn, FnGood Tryz.prog tyAt env0 97 fn F97 := ⟨Tryz.f97, Tryz.func97, fe97, by kernel_rfl, by kernel_rfl⟩
theorem ok98 : ∃ fn, FnGood Tryz.prog tyAt env0 98 fn F98 := ⟨Tryz.f98, Tryz.func98, fe98, by kernel_rfl, by kernel_rfl⟩
theorem ok99 : ∃ fn, FnGood Tryz.prog tyAt env0 99 fn F99 := ⟨Tryz.f99, Tryz.func99, fe99, by kernel_rfl, by kernel_rfl⟩
theorem ok100 : ∃ fn, FnGood Tryz.prog tyAt env0 100 fn F100 := ⟨Tryz.f100, Tryz.func100, fe100, by kernel_rfl, by kernel_rfl⟩
theorem ok101 : ∃ fn, FnGood Tryz.prog tyAt env0 101 fn F101 := ⟨Tryz.f101, Tryz.func101, fe101, by kernel_rfl, by kernel_rfl⟩
theorem ok102 : ∃ fn, FnGood Tryz.prog tyAt env0 102 fn F102 := ⟨Tryz.f102, Tryz.func102, fe102, by kernel_rfl, by kernel_rfl⟩
end Go.Sx
