/-
  A world that holds the listed package variables, and what a run that answers true gives for the row.
-/
import Derived.Test.YtjliobdjggmfeaaGreatDoorSeat
import Derived.WalkKit
import Derived.ProofKit
import Derived.OpenShut
import Derived.Deep.DeepHandedRow
import Derived.Deep.DeepWitnessRowRef
import Derived.Lib.LaidTab
import Derived.Lib.LaidIn
set_option linter.unusedVariables false
set_option linter.unusedSimpArgs false
namespace Go.Sx
open Go.Proofs Go.Proofs.YtjliobdjggmfeaaGreatDoor
/-! a world in which the package variables hold what the text lays there -/
noncomputable def flatA (d : DataW Unit) : Array Value := ((flatD d).getD []).toArray
noncomputable def textOf : DataW Unit → List UInt8
  | .iface _ (.ptr (.agg [.lit (.string s)])) => s
  | _ => []
noncomputable def putG (h : Array Obj) (g : Nat) (cs : Array Value) : Array Obj := h.modify g fun
  | .cells _ t frozen => .cells cs t frozen
  | o => o
noncomputable def laidWorld (os : Os) : World :=
  let N := (World.settled Tryz.prog os).heap.size
  let w0 := World.holding Tryz.prog os ⟨#[.cells #[.string ⟨(textOf Rows.laid_strconv_ErrSyntax).toArray⟩] 356, .cells #[.string ⟨(textOf Rows.laid_strconv_ErrRange).toArray⟩] 356], #[], []⟩
  let h0 := putG w0.heap 0 (flatA Rows.laid_skua_word_types)
  let h1 := putG h0 1 (flatA Rows.laid_skua_lex_signs)
  let h2 := putG h1 2 (flatA Rows.laid_internal_strconv_uint64pow10)
  let h3 := putG h2 3 (flatA Rows.laid_math_bits_deBruijn32tab)
  let h4 := putG h3 4 (flatA Rows.laid_math_bits_deBruijn64tab)
  let h5 := putG h4 5 (flatA Rows.laid_skua_lex_keywords)
  let h6 := putG h5 6 #[.iface 354 (.pointer (some ⟨N, 0, none⟩))]
  let h7 := putG h6 7 #[.iface 354 (.pointer (some ⟨N + 1, 0, none⟩))]
  let h8 := putG h7 9 (flatA Rows.laid_unicode_utf8_first)
  let h9 := putG h8 10 (flatA Rows.laid_unicode_utf8_acceptRanges)
  { w0 with heap := h9 }
noncomputable abbrev NS : Nat := (World.settled Tryz.prog default).heap.size
theorem laid_in (os : Os) (args : Array Value) : LaidIn Tryz.prog ((laidWorld os).forCall (fun _ _ => 0) ⟨#[], args, []⟩).memory laidL [0, 1, 2, 3, 4, 5, 6, 7, 9, 10, NS, NS + 1] :=
  LaidIn.of_run [0, 1, 2, 3, 4, 5, 6, 7, 9, 10, NS, NS + 1] 8 (by kernel_rfl) (by kernel_rfl) (by kernel_rfl) (by kernel_rfl)
theorem laid_world (os : Os) (args : Array Value) : laidMet Tryz.prog laidL ((laidWorld os).forCall (fun _ _ => 0) ⟨#[], args, []⟩).memory := (laid_in os args).met
theorem noHandles : (laidL.filter fun x => x.2.handleName?.isSome) = [] := by kernel_rfl
theorem own : ownKnob Tryz.prog.godebug = none := by kernel_rfl

/-- what is there stays as it is -/
theorem kept_of {W W' : World} {may : MemPlace → Prop} (h1 : W'.os = W.os) (h2 : W'.output = W.output) (h3 : ∀ i, i < W.heap.size → W'.heap[i]? = W.heap[i]?) : W.keptBut W' may := by
  refine ⟨h1, h2, fun i hi => ?_⟩
  rw [h3 i hi]
  exact (World.keptBut_refl W may).2.2 i hi

/-- a call that answers true, of a run that answers true -/
theorem calls_of_run {P : Program} {Dk : Deferred → Prop} {W : World} {f : Nat} {args : List AV} {args' : List Value} {ih : Ih} (hih : IhOk P Dk W.heap.size W ih) {h : Hp} {π : Pm} (hv : VRs π args args') (hr : HRel W.heap.size W π h W) {h' : Hp} (hf : Free π (nextOf h) (nextOf h')) (hrun : ih f args h = .ok (.bool true) h')
    {fn : Func} {c : Code} (h1 : P.funcs[f]? = some fn) (hn : (fn.name == "runtime.NumGoroutine") = false) (hb : fn.body = some c) :
    Calls P f args'.toArray W fun e W' => e = .returned (.bool true) ∧ ∀ may, W.keptBut W' may := by
  have hd := (hih f args h _ h' hrun).2 π W args' hv hr hf
  unfold Doo at hd
  rw [run_callFunc h1 hn hb] at hd
  refine Calls.mono hd fun e W' hR => ?_
  obtain ⟨v, rfl, π', p1, p2, p3⟩ := hR
  refine ⟨by rw [p1.bool_iff], fun may => kept_of p2.same.2.1 p2.same.2.2 fun i hi => p2.old i hi⟩
theorem empty_rel (W : World) : HRel W.heap.size W (fun _ => none) (.mk e8 0) W :=
  ⟨fun b o p _ h => (by cases h), fun b c o q p r _ _ h => (by cases h), fun b p h => (by cases h), fun _ _ => rfl, Nat.le_refl _, fun b _ => get_emp 8 b, ⟨rfl, rfl, rfl⟩⟩
end Go.Sx
