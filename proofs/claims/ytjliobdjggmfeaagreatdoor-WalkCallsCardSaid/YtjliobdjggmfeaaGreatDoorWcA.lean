/-
  The rest of WalkCalls behind its argument: definitions alone.
-/
import Derived.Test.YtjliobdjggmfeaaGreatDoorSumA14
import Derived.Test.YtjliobdjggmfeaaGreatDoorSumR14
set_option linter.unusedVariables false
set_option linter.unusedSimpArgs false
namespace Go.Sx
/-! WalkCalls: the runs, behind what it is called with -/
noncomputable def envW : Env := ⟨fun f => onB (Nat.beq f 47 || Nat.beq f 26) none (getN 6 fnTr f), fun b off => globAt b off,
  fun f => onB (Nat.beq f 47) (some (sumX sa_r14 sv_r14 so_r14)) (onB (Nat.beq f 26) (some (sumX sa_a14 sv_a14 so_a14)) (extAt f)), nopAt⟩
noncomputable def rest6 : Bx := ⟨cSeq c6_2 ⟨cSeq ⟨cSeq c6_3 c6_10⟩ ⟨cSeq c6_11 ⟨cSeq c6_12 ⟨cRet⟩⟩⟩⟩⟩
noncomputable def tm6 (x : AV) (k : Nat) : Tm := (⟨some x, emp AV 4, (⟨some (.bool false), emp AV 3, emp AV 3, emp AV 3, emp AV 3⟩ : Nd AV (TyL AV 3)), (⟨some (.int .u64 (.ofNat k)), emp AV 3, emp AV 3, emp AV 3, emp AV 3⟩ : Nd AV (TyL AV 3)), emp AV 4⟩ : Nd AV (TyL AV 4))
noncomputable def fin6 : Res → Bool
  | .ret tm h => (match lOne v2 tm h with | .ok (.bool true) _ => true | _ => false)
  | _ => false
end Go.Sx
