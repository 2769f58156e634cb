/-
  Closed facts of the row: the joined facts, and the witness: the world that the door's own run leaves meets what the row asks. No condition.
-/
import Derived.Test.YtikhphdimgcbkaaGreatDoorRows
import Derived.ProofKit
import Derived.LaidMore
import Derived.Stop.Joined
set_option maxRecDepth 100000
namespace Go.Proofs.YtikhphdimgcbkaaGreatDoor
open Go Go.ChangeShapes Go.WideShapes Go.ChangeAt Go.RowKit

noncomputable def w0 (os : Os) : World := World.doorLaid Tryz.prog 400 os
theorem door_met (os : Os) (args : Array Value) : laidMetH Tryz.prog Rows.harnessDiffersRow.laid ((World.doorLaid Tryz.prog 400 os).forCall (fun _ _ => 0) ⟨#[], args, []⟩).memory :=
  laidMetH_of_parts3 (fuel := 8) (laidMet_of_run' 8 (by kernel_rfl) (by kernel_rfl)) (by kernel_rfl) (by kernel_rfl)
theorem door_shaped (os : Os) : ((World.doorLaid Tryz.prog 400 os).forCall (fun _ _ => 0) ⟨#[], #[.slice none 0 0, .slice none 0 0], []⟩).Shaped Tryz.prog := World.shaped_of_RefB (by kernel_rfl) (by kernel_rfl)
end Go.Proofs.YtikhphdimgcbkaaGreatDoor
