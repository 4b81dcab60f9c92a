/-
  The package variables and outside functions of the seat, as the executor has them.
-/
import Derived.Test.YtjliobdjggmfeaaGreatDoorTab
import Derived.Test.YtjliobdjggmfeaaGreatDoorKA
set_option linter.unusedVariables false
set_option linter.unusedSimpArgs false
namespace Go.Sx
noncomputable def glob0 : List AV := [.int .i64 (.ofNat 1), .bool false, .str [98, 111, 111, 108], .int .i64 (.ofNat 8), .bool false, .str [117, 56], .int .i64 (.ofNat 16), .bool false, .str [117, 49, 54], .int .i64 (.ofNat 32), .bool false, .str [117, 51, 50], .int .i64 (.ofNat 64), .bool false, .str [117, 54, 52], .int .i64 (.ofNat 8), .bool true, .str [105, 56], .int .i64 (.ofNat 16), .bool true, .str [105, 49, 54], .int .i64 (.ofNat 32), .bool true, .str [105, 51, 50], .int .i64 (.ofNat 64), .bool true, .str [105, 54, 52]]
noncomputable def glob1 : List AV := [.str [124, 124], .str [38, 38], .str [61, 61], .str [33, 61], .str [60, 61], .str [62, 61], .str [60, 60], .str [62, 62], .str [43], .str [45], .str [42], .str [47], .str [37], .str [38], .str [124], .str [94], .str [126], .str [33], .str [60], .str [62], .str [61], .str [40], .str [41], .str [123], .str [125], .str [91], .str [93], .str [44], .str [59]]
noncomputable def glob2 : List AV := [.int .u64 (.ofNat 1), .int .u64 (.ofNat 10), .int .u64 (.ofNat 100), .int .u64 (.ofNat 1000), .int .u64 (.ofNat 10000), .int .u64 (.ofNat 100000), .int .u64 (.ofNat 1000000), .int .u64 (.ofNat 10000000), .int .u64 (.ofNat 100000000), .int .u64 (.ofNat 1000000000), .int .u64 (.ofNat 10000000000), .int .u64 (.ofNat 100000000000), .int .u64 (.ofNat 1000000000000), .int .u64 (.ofNat 10000000000000), .int .u64 (.ofNat 100000000000000), .int .u64 (.ofNat 1000000000000000), .int .u64 (.ofNat 10000000000000000), .int .u64 (.ofNat 100000000000000000), .int .u64 (.ofNat 1000000000000000000), .int .u64 (.ofNat 10000000000000000000)]
noncomputable def glob5 : List AV := [.str [98, 111, 111, 108], .str [117, 56], .str [117, 49, 54], .str [117, 51, 50], .str [117, 54, 52], .str [105, 56], .str [105, 49, 54], .str [105, 51, 50], .str [105, 54, 52], .str [118, 111, 105, 100], .str [105, 102], .str [101, 108, 115, 101], .str [119, 104, 105, 108, 101], .str [114, 101, 116, 117, 114, 110], .str [97, 115, 115, 101, 114, 116], .str [97, 115, 115, 117, 109, 101], .str [110, 111, 110, 100, 101, 116], .str [116, 114, 117, 101], .str [102, 97, 108, 115, 101]]
noncomputable def extAt (f : Nat) : Option (List AV → Hp → Sr) :=
  onB (Nat.beq f 300) (some xCount) (onB (Nat.beq f 307) (some xIndex) (onB (Nat.beq f 182) (some xClone) none))
noncomputable def globAt (b off : Nat) : Option AV := onB (Nat.beq b 0) (nth glob0 off) (onB (Nat.beq b 1) (nth glob1 off) (onB (Nat.beq b 2) (nth glob2 off) (onB (Nat.beq b 5) (nth glob5 off) (none))))
noncomputable def nopAt (f : Nat) : Bool := Nat.beq f 157 || Nat.beq f 205
noncomputable def env0 : Env := ⟨fun _ => none, globAt, extAt, nopAt⟩
end Go.Sx
