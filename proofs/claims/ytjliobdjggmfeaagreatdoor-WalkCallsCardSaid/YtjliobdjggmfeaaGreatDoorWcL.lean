/-
  For every u8 n and every world that holds the listed package variables the call WalkCalls(n) returns true and leaves what was there as it was.
-/
import Derived.Test.YtjliobdjggmfeaaGreatDoorWcM
import Derived.Test.YtjliobdjggmfeaaGreatDoorWit
set_option linter.unusedVariables false
set_option linter.unusedSimpArgs false
namespace Go.Proofs.YtjliobdjggmfeaaGreatDoor.walkCalls
open Go.ChangeShapes Go.WideShapes Go.ChangeAt Go.RowKit Go.Sx

/-! the closed calls in a world that holds the tables -/
theorem scal_clo {args : List AV} (h : ∀ a ∈ args, (∃ s, a = .str s) ∨ (∃ k n, a = .int k n) ∨ ∃ b, a = .bool b) : Clo args := fun π π' args' hv => ⟨hv.1, fun i v v' h1 h2 => by
  have := hv.2 i v v' h1 h2
  rcases h v (List.mem_of_getElem? h1) with ⟨s, rfl⟩ | ⟨k, n, rfl⟩ | ⟨b, rfl⟩
  · obtain ⟨s', rfl, rfl⟩ := this.str_iff; exact .str _
  · obtain rfl := this.int_iff; exact .int _ _
  · obtain rfl := this.bool_iff; exact .bool _⟩
theorem envW_ok {W : World} (h : laidMet Tryz.prog laidL W) (n : Nat) : IhOk Tryz.prog (DkOf nopAt) W.heap.size W (run envW n) := by
  have base := seat_ok h (EF := envF) (fun f F hF => hF) (fun f g hg => .inl hg) 3000
  refine seat_ok h (EF := envW) (fun f F hF => ?_) (fun f g hg => ?_) n
  · have hF' : onB (Nat.beq f 47 || Nat.beq f 26) none (getN 6 fnTr f) = some F := hF
    rw [onB_eq] at hF'
    split at hF'
    · cases hF'
    · exact hF'
  · have hg' : onB (Nat.beq f 47) (some (sumX sa_r14 sv_r14 so_r14)) (onB (Nat.beq f 26) (some (sumX sa_a14 sv_a14 so_a14)) (extAt f)) = some g := hg
    rw [onB_eq] at hg'
    split at hg'
    · rename_i hf
      have := Nat.eq_of_beq_eq_true hf
      subst this
      cases hg'
      exact .inr (sum_ok base (scal_clo fun a ha => by
        obtain rfl := List.mem_singleton.1 ha
        exact .inl ⟨_, rfl⟩) st_r14)
    · rw [onB_eq] at hg'
      split at hg'
      · rename_i hf
        have := Nat.eq_of_beq_eq_true hf
        subst this
        cases hg'
        exact .inr (sum_ok base (scal_clo fun a ha => by cases ha) st_a14)
      · exact .inl hg'

/-! THE WALK -/
theorem walk {W : World} (h : laidMet Tryz.prog laidL W) (n : Nat) : Calls Tryz.prog 6 #[.int .u8 (Int.ofNat n)] W fun e W' => e = .returned (.bool true) ∧ ∀ may, W.keptBut W' may := by
  have hrun : ∃ h', run envW 3001 6 [.int .u8 (.ofNat n)] (.mk e8 0) = .ok (.bool true) h' := by
    obtain ⟨h', hr⟩ := run6 n
    rcases hr with hr | hr
    · exact ⟨h', hr⟩
    · rw [wc_all _ (n % 12) (Nat.mod_lt _ (by omega))] at hr; cases hr
  obtain ⟨h', hrun⟩ := hrun
  have hb : ∃ c, Tryz.f6.body = some c := ⟨_, rfl⟩
  obtain ⟨c, hb⟩ := hb
  exact calls_of_run (envW_ok h 3001) (args := [.int .u8 (.ofNat n)]) (args' := [.int .u8 (.ofNat n)]) (.cons (.int _ _) .nil) (empty_rel W) (fun _ _ _ => rfl) hrun Tryz.func6 (by kernel_rfl) hb

set_option maxRecDepth 100000 in
theorem contract (H : Type) (enc : TypeId × Value → H) (W : World) (base : Nat) (args : Array Value) (ds gs : List (DataW H)) (before : List MemPlace)
    (hval : ∀ (j : Nat) t v, Tryz.f6.params[j]? = some t → args[j]? = some v → Value.okWide Tryz.prog W .any base t v)
    (hW : DataW.Whole enc Tryz.prog Tryz.f6.params.toList Rows.walkCallsSpec.vars false W args.toList ds gs before) (hL : laidMet Tryz.prog laidL W) :
    Calls Tryz.prog 6 args W fun e W' => ∃ v, e = .returned v ∧ Rows.walkCallsSpec.post enc Tryz.prog Tryz.f6 false true false false W args v W' := by
  have hW' := hW
  obtain ⟨p, q, hA0, hV, rfl, hfz, hnd⟩ := hW
  have hA : DataW.TrodAll enc Tryz.prog W 0 (fun _ => true) true Tryz.f6.params.toList args.toList ds p := hA0
  rw [Tryz.params6] at hA hval
  obtain ⟨v0, vs0, d0, ds0, p0, q0, hargs, rfl, rfl, h0, r0⟩ := trodAll_cons hA
  obtain ⟨rfl, rfl, rfl⟩ := trodAll_nil r0
  obtain rfl : args = #[v0] := by cases args; simp_all
  obtain ⟨rfl, rfl⟩ := trodVars_none hV
  obtain ⟨a0, rfl, rfl, rfl, w0⟩ := open_int Tryz.underlying5 (hval 0 5 v0 rfl rfl) h0
  clear hA0
  simp only [List.append_nil] at hW'
  have hn : ∃ n : Nat, a0 = Int.ofNat n := by
    simp only [Lit.wf, Bool.and_eq_true, decide_eq_true_eq] at w0
    exact Int.eq_ofNat_of_zero_le w0.1
  obtain ⟨n, rfl⟩ := hn
  refine (walk hL n).mono fun e W' ⟨he, hk⟩ => ?_
  subst he
  exact ⟨_, rfl, _, _, _, _, [], [], hW', trodAll_cons_mk (shut_bool Tryz.underlying4 _) trodAll_mk0, trodAll_cons_mk (shut_int Tryz.underlying5 w0) trodAll_mk0, rfl, hk _, fun h => by cases h⟩

theorem reads (os : Os) {H : Type} (enc : TypeId × Value → H) : ∃ places, DataW.whole enc Tryz.prog ((laidWorld os).forCall (fun _ _ => 0) ⟨#[], #[.int .u8 0], []⟩).memory Tryz.f6.params.toList Rows.walkCallsSpec.vars false #[Value.int .u8 0].toList 8 = some ([.lit (.int .u8 0)], [], places) :=
  ⟨[], by kernel_rfl⟩
theorem laid_row : Rows.walkCallsRow.laid = laidL := rfl

set_option maxRecDepth 100000 in
theorem lifted (os : Os) (started : os.Started) (H : Type) (enc : TypeId × Value → H) (F : Stop.Interp) :
    ReturnsInHanded {} Tryz.checked os 6 .any ((OpenSpec.ofChange Rows.walkCallsSpec).preRow enc Tryz.prog Tryz.f6 Rows.walkCallsRow.domain false Rows.walkCallsRow.laid) (((OpenSpec.ofChange Rows.walkCallsSpec).at F).post enc Tryz.prog Tryz.f6 false true false false) := by
  obtain ⟨places, hx⟩ := reads os enc
  refine returnsInHanded_of_row (C := Tryz.checked) (s := OpenSpec.ofChange Rows.walkCallsSpec) own started (by kernel_rfl) Tryz.func6
    (witness_row_atRef (enc := enc) (C := Tryz.checked) false (laidWorld os) #[.int .u8 0] rfl (by kernel_rfl) (by kernel_rfl) (by kernel_rfl)
      (OpenSpec.preRow_of_cond 8 hx (by kernel_rfl) (fun k hk => by cases hk) (by kernel_rfl) (laid_world os _))) ?_
  intro W base args ds gs before hval hW _ _ _ hL _ _
  exact contract H enc W base args ds gs before hval hW (laid_met hL noHandles)

end Go.Proofs.YtjliobdjggmfeaaGreatDoor.walkCalls
