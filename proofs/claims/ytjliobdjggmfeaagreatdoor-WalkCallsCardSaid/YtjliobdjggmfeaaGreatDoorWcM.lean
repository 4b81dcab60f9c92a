/-
  WalkCalls ends with true for every argument of its kind: the executor's run.
-/
import Derived.Test.YtjliobdjggmfeaaGreatDoorWc0
import Derived.Test.YtjliobdjggmfeaaGreatDoorWc1
import Derived.Test.YtjliobdjggmfeaaGreatDoorWc2
import Derived.Test.YtjliobdjggmfeaaGreatDoorWc3
import Derived.Test.YtjliobdjggmfeaaGreatDoorKA
import Derived.Test.YtjliobdjggmfeaaGreatDoorWcA
set_option linter.unusedVariables false
set_option linter.unusedSimpArgs false
namespace Go.Sx
theorem wc_all (x : AV) : ∀ k, k < 12 → fin6 (rest6.f (run envW 3000) 3000 (tm6 x k) (.mk e8 0)) = true := by
  intro k hk
  match k, hk with
  | 0, _ => exact wc0 x
  | 1, _ => exact wc1 x
  | 2, _ => exact wc2 x
  | 3, _ => exact wc3 x
  | 4, _ => exact wc4 x
  | 5, _ => exact wc5 x
  | 6, _ => exact wc6 x
  | 7, _ => exact wc7 x
  | 8, _ => exact wc8 x
  | 9, _ => exact wc9 x
  | 10, _ => exact wc10 x
  | 11, _ => exact wc11 x
  | k + 12, h => omega
end Go.Sx

namespace Go.Sx
noncomputable def tm0 (x : AV) : Tm := (⟨some x, emp AV 4, (⟨some (.bool false), emp AV 3, emp AV 3, emp AV 3, emp AV 3⟩ : Nd AV (TyL AV 3)), emp AV 4, emp AV 4⟩ : Nd AV (TyL AV 4))
theorem c60 (x : AV) (ih : Ih) (n : Nat) (h : Hp) : c6_0.f ih n (⟨some x, emp AV 4, emp AV 4, emp AV 4, emp AV 4⟩ : Nd AV (TyL AV 4)) h = .norm (tm0 x) h := rfl
theorem rem12 (n : Nat) (h : Hp) : binV .rem .none (.int .u8 (.ofNat n)) (.int .u8 (.ofNat 12)) h = .ok (.int .u8 (.ofNat (n % 12))) h := by
  show onB (kindEq .u8 .u8) (binI .rem .u8 (.ofNat n) (.ofNat 12) h) (.fail 6) = _
  rw [show kindEq .u8 .u8 = true from rfl, onB_true]
  show onB (ieq (.ofNat 12) 0) (Sr.fail 2) (intK ((Int.ofNat n).tmod (.ofNat 12)) (fun n => Sr.ok (.int .u8 n) h)) = _
  rw [show ieq (.ofNat 12) 0 = false from rfl, onB_false, intK_eq]
  rfl
theorem conv12 (k : Nat) (hk : k < 12) (h : Hp) : mkI .u64 (.ofNat k) h = .ok (.int .u64 (.ofNat k)) h := by
  rw [mkI_eq]
  have := wrap_pos .u64 k (by show k < 18446744073709551616; omega)
  show Sr.ok (.int .u64 (IntKind.u64.wrap (k : Int))) h = _
  rw [this]
  rfl
theorem c61 (n : Nat) (ih : Ih) (N : Nat) (h : Hp) : c6_1.f ih N (tm0 (.int .u8 (.ofNat n))) h = .norm (tm6 (.int .u8 (.ofNat n)) (n % 12)) h := by
  show onS (binV .rem .none (.int .u8 (.ofNat n)) (.int .u8 (.ofNat 12)) h) Res.fail _ = _
  rw [rem12, onS_ok]
  show onS (mkI .u64 (.ofNat (n % 12)) h) Res.fail _ = _
  rw [conv12 (n % 12) (Nat.mod_lt _ (by omega)), onS_ok]
  rfl
theorem run6 (n : Nat) : ∃ h', run envW 3001 6 [.int .u8 (.ofNat n)] (.mk e8 0) = .ok (.bool true) h' ∨ fin6 (rest6.f (run envW 3000) 3000 (tm6 (.int .u8 (.ofNat n)) (n % 12)) (.mk e8 0)) = false := by
  have e : run envW 3001 6 [.int .u8 (.ofNat n)] (.mk e8 0) = (match rest6.f (run envW 3000) 3000 (tm6 (.int .u8 (.ofNat n)) (n % 12)) (.mk e8 0) with
      | .norm tm h => lOne v2 tm h
      | .ret tm h => lOne v2 tm h
      | .exit _ _ _ => .fail 41
      | .fail w => .fail w) := by
    show (match (cSeq c6_0 ⟨cSeq c6_1 rest6⟩) (run envW 3000) 3000 (⟨some (.int .u8 (.ofNat n)), emp AV 4, emp AV 4, emp AV 4, emp AV 4⟩ : Nd AV (TyL AV 4)) (.mk e8 0) with
      | .norm tm h => lOne v2 tm h
      | .ret tm h => lOne v2 tm h
      | .exit _ _ _ => .fail 41
      | .fail w => .fail w) = _
    unfold cSeq
    rw [c60]
    simp only
    rw [c61]
  rw [e]
  cases hr : rest6.f (run envW 3000) 3000 (tm6 (.int .u8 (.ofNat n)) (n % 12)) (.mk e8 0) with
  | fail m => exact ⟨.mk e8 0, .inr rfl⟩
  | exit a b c => exact ⟨.mk e8 0, .inr rfl⟩
  | norm a b => exact ⟨.mk e8 0, .inr rfl⟩
  | ret tm h =>
    cases hl : lOne v2 tm h with
    | fail m => exact ⟨.mk e8 0, .inr (by simp [fin6, hl])⟩
    | ok v h' =>
      cases v with
      | bool b =>
        cases b with
        | true => exact ⟨h', .inl hl⟩
        | false => exact ⟨.mk e8 0, .inr (by simp [fin6, hl])⟩
      | _ => exact ⟨.mk e8 0, .inr (by simp [fin6, hl])⟩
end Go.Sx
