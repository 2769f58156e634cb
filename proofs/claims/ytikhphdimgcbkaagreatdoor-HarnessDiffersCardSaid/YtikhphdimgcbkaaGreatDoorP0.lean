/-
  Closed facts of the program that the row wants. No condition.
-/
import Derived.Test.YtikhphdimgcbkaaGreatDoorRows
import Derived.ProofKit
import Derived.Test.YtikhphdimgcbkaaGreatDoorE
namespace Go.Proofs.YtikhphdimgcbkaaGreatDoor
open Go
theorem cells24 : Tryz.prog.cellsOf 24 = 1 := by kernel_rfl
theorem cells21 : Tryz.prog.cellsOf 21 = 1 := by kernel_rfl
theorem own : ownKnob Tryz.prog.godebug = none := by kernel_rfl
theorem laidOut : laidOutB Tryz.prog = true := by kernel_rfl
theorem read22 : Tryz.prog.readableRec 22 = true := by kernel_rfl
theorem row22 : 22 < Tryz.prog.types.size := of_decide_eq_true (by kernel_rfl)
theorem noInit : Tryz.prog.inits.idxOf? 3 = none := by kernel_rfl
theorem shaped_base {w : World} (h : w.ShapedOpen Tryz.prog) : glob.Base w :=
  cell_of_shapedOpen_int h (of_decide_eq_true (by kernel_rfl)) (zero := #[.int .i64 0]) (t := 3) (by kernel_rfl) rfl (by kernel_rfl) (by kernel_rfl) (by kernel_rfl)
end Go.Proofs.YtikhphdimgcbkaaGreatDoor
