/-
  For every u8 n the call skualaw14.WalkCalls(n) returns true, changes nothing that was there, and needs no condition but that the listed package variables start as the program's text lays them (the card ties them).
-/
import Derived.Test.YtjliobdjggmfeaaGreatDoorWcJ
import Derived.Test.YtjliobdjggmfeaaGreatDoorWcK
import Derived.Test.YtjliobdjggmfeaaGreatDoorWcL
import Derived.Test.YtjliobdjggmfeaaGreatDoorCards
import Derived.Test.YtjliobdjggmfeaaGreatDoorTie
set_option linter.unusedVariables false
set_option linter.unusedSimpArgs false
namespace Go.Proofs.YtjliobdjggmfeaaGreatDoor.walkCalls
open Go.ChangeShapes Go.WideShapes Go.ChangeAt Go.RowKit Go.Sx
theorem said : Rows.WalkCallsSaid :=
  OpenClaim.holds_of_cond 6 Tryz.f6 rfl rfl rfl rfl rfl rfl rfl ⟨rfl, rfl, rfl, rfl, rfl⟩ rfl rfl rfl rfl rfl fNamed Tryz.func6 joined fInst fWrap
    (fun os started H enc _ F => by rw [OpenClaim.pre_eq_preRow]; exact lifted os started H enc F)

/-- ████ THE CARD ████ -/
theorem card : Rows.WalkCallsCardSaid :=
  Claim7.holds_tied_plain_at .later [] _ _ _ _ said (fun _ h => by cases h) wfT (fun _ h => by cases h) walkCalls_row_tie rfl ⟨rfl, rfl⟩ mainT rfl plain goesT
#print axioms card
end Go.Proofs.YtjliobdjggmfeaaGreatDoor.walkCalls
