/-
  What flow.Read comes to at the text of WalkCalls: one run of the executor, by the kernel.
-/
import Derived.Test.YtjliobdjggmfeaaGreatDoorFns
import Derived.KernelRfl
set_option linter.unusedVariables false
set_option linter.unusedSimpArgs false
namespace Go.Sx
noncomputable def sa_r14 : List AV := [.str [117, 49, 54, 32, 120, 59, 32, 117, 49, 54, 32, 102, 40, 117, 49, 54, 32, 110, 41, 32, 123, 32, 117, 49, 54, 32, 114, 59, 32, 105, 102, 32, 40, 110, 32, 61, 61, 32, 48, 41, 32, 123, 32, 114, 101, 116, 117, 114, 110, 32, 49, 59, 32, 125, 32, 114, 32, 61, 32, 102, 40, 110, 32, 45, 32, 49, 41, 59, 32, 114, 101, 116, 117, 114, 110, 32, 114, 32, 42, 32, 110, 59, 32, 125, 32, 118, 111, 105, 100, 32, 109, 97, 105, 110, 40, 41, 32, 123, 32, 117, 49, 54, 32, 107, 59, 32, 107, 32, 61, 32, 110, 111, 110, 100, 101, 116, 40, 41, 59, 32, 120, 32, 61, 32, 102, 40, 107, 41, 59, 32, 125]]
noncomputable def sr_r14 : List Nat := [1841, 1842, 1843, 1844, 1864, 1888, 1899, 1901, 2039, 2050, 2092, 2099, 2102, 2108, 2148, 2154, 2171, 2174, 2179, 2182, 2339, 2349, 2352, 2358, 2362, 2502, 2511, 2517, 2532, 2535, 2537, 2552, 2555, 2567, 2573, 2612, 2614, 2617, 2620, 2623, 2627, 2629]
noncomputable def sv_r14 : AV := .tup [.ptr 3 0, I 0, I 0, I 0]
noncomputable def so_r14 : List SO := [.map [(.str [110, 117, 109, 58, 98, 111, 111, 108, 58, 49, 58, 48], I 0), (.str [118, 97, 114, 58, 117, 49, 54, 58, 48, 58, 49], I 1), (.str [110, 117, 109, 58, 117, 49, 54, 58, 48, 58, 48], I 2), (.str [61, 61, 58, 98, 111, 111, 108, 58, 48, 58, 48, 58, 49, 58, 50], I 3), (.str [117, 33, 58, 98, 111, 111, 108, 58, 48, 58, 48, 58, 51], I 4), (.str [110, 117, 109, 58, 117, 49, 54, 58, 49, 58, 48], I 5), (.str [118, 97, 114, 58, 117, 49, 54, 58, 48, 58, 52], I 6), (.str [45, 58, 117, 49, 54, 58, 48, 58, 48, 58, 49, 58, 53], I 7), (.str [118, 97, 114, 58, 117, 49, 54, 58, 48, 58, 50], I 8), (.str [42, 58, 117, 49, 54, 58, 48, 58, 48, 58, 56, 58, 49], I 9), (.str [118, 97, 114, 58, 117, 49, 54, 58, 48, 58, 51], I 10)],
  .map [(I 1, .agg [I 16, .bool false]), (I 4, .agg [I 16, .bool false]), (I 2, .agg [I 16, .bool false]), (I 3, .agg [I 16, .bool false])],
  .cells [.slice 35 0 11 11 6, .map 0, .map 1],
  .cells [.ptr 2 0, .slice 6 0 5 5 2, I 1, .slice 41 0 2 2 6, I 1],
  .cells [I 1],
  .cells [I 3],
  .cells [I 16, .bool false, I 16, .bool false, I 16, .bool false, I 16, .bool false, I 16, .bool false],
  .cells [I 2, I 4],
  .cells [I 1, I 2],
  .cells [I 3],
  .cells [I 3],
  .cells [I 4],
  .cells [.str [97, 115, 115, 117, 109, 101], .nilSlice, .slice 9 0 1 1 0, I 0, I 2, I 0, I 0, I 0, .str [97, 115, 115, 117, 109, 101], .nilSlice, .slice 11 0 1 1 0, I 0, I 3, I 0, I 0, I 0],
  .cells [I 4],
  .cells [I 5],
  .cells [.str [115, 101, 116], .slice 13 0 1 1 0, .slice 14 0 1 1 0, I 0, I 5, I 0, I 0, I 0],
  .cells [I 6],
  .cells [.str [114, 101, 116, 117, 114, 110], .nilSlice, .slice 16 0 1 1 0, I 0, I 1, I 0, I 0, I 0],
  .cells [.str [115, 101, 116], .nilSlice, .nilSlice, I 0, I 4, I 0, I 0, I 0],
  .cells [.str [115, 101, 116], .nilSlice, .nilSlice, I 0, I 4, I 0, I 0, I 0],
  .cells [I 1, I 5],
  .cells [I 7],
  .cells [I 2],
  .cells [.str [99, 97, 108, 108], .slice 22 0 1 1 0, .slice 21 0 1 1 1, I 0, I 7, I 0, I 0, I 0],
  .cells [I 4],
  .cells [I 8, I 1],
  .cells [I 9],
  .cells [.str [115, 101, 116], .slice 24 0 1 1 0, .slice 26 0 1 1 0, I 0, I 8, I 0, I 0, I 0],
  .cells [I 6],
  .cells [.str [114, 101, 116, 117, 114, 110], .nilSlice, .slice 28 0 1 1 0, I 0, I 1, I 0, I 0, I 0],
  .cells [.slice 12 0 2 2 8, .nilSlice, .slice 15 0 1 1 8, .slice 19 0 1 1 8, .slice 23 0 1 1 8, .slice 17 0 1 1 8, .slice 18 0 1 1 8, .slice 27 0 1 1 8, .slice 29 0 1 1 8, .slice 32 0 1 1 8],
  .cells [I 6],
  .cells [.str [114, 101, 116, 117, 114, 110], .nilSlice, .slice 31 0 1 1 0, I 0, I 1, I 0, I 0, I 0],
  .cells [I 3],
  .cells [.str [100, 114, 97, 119], .slice 33 0 1 1 0, .nilSlice, I 0, I 2, I 0, I 1, I 107],
  .cells [.str [110, 117, 109], I 1, .bool false, .int .u64 (.ofNat 1), I 0, .nilSlice, .str [118, 97, 114], I 16, .bool false, .int .u64 (.ofNat 0), I 1, .nilSlice, .str [110, 117, 109], I 16, .bool false, .int .u64 (.ofNat 0), I 0, .nilSlice, .str [61, 61], I 1, .bool false, .int .u64 (.ofNat 0), I 0, .slice 8 0 2 2 1, .str [117, 33], I 1, .bool false, .int .u64 (.ofNat 0), I 0, .slice 10 0 1 1 1, .str [110, 117, 109], I 16, .bool false, .int .u64 (.ofNat 1), I 0, .nilSlice, .str [118, 97, 114], I 16, .bool false, .int .u64 (.ofNat 0), I 4, .nilSlice, .str [45], I 16, .bool false, .int .u64 (.ofNat 0), I 0, .slice 20 0 2 2 1, .str [118, 97, 114], I 16, .bool false, .int .u64 (.ofNat 0), I 2, .nilSlice, .str [42], I 16, .bool false, .int .u64 (.ofNat 0), I 0, .slice 25 0 2 2 1, .str [118, 97, 114], I 16, .bool false, .int .u64 (.ofNat 0), I 3, .nilSlice],
  .cells [I 10],
  .cells [I 0],
  .cells [.slice 34 0 1 1 8, .nilSlice, .slice 39 0 1 1 8, .slice 40 0 1 1 8],
  .cells [.str [99, 97, 108, 108], .slice 37 0 1 1 0, .slice 36 0 1 1 1, I 0, I 3, I 0, I 0, I 0],
  .cells [.str [114, 101, 116, 117, 114, 110], .nilSlice, .nilSlice, I 0, I 1, I 0, I 0, I 0],
  .cells [.str [102], .slice 4 0 1 1 1, .slice 7 0 2 2 1, I 16, .bool false, .slice 30 0 10 10 1, .str [109, 97, 105, 110], .nilSlice, .slice 5 0 1 1 1, I 0, .bool false, .slice 38 0 4 4 1]]
theorem st_r14 : sumT sr_r14 sv_r14 so_r14 (run envF 3000 47 sa_r14 (.mk e8 0)) = true := by kernel_rfl
end Go.Sx
