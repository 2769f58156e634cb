/-
  Closed facts of the row, one by one (part 1). No condition.
-/
import Derived.Test.YtikhphdimgcbkaaGreatDoorRows
import Derived.ProofKit
import Derived.JoinedOf
import Derived.Test.YtikhphdimgcbkaaGreatDoorP0
set_option maxRecDepth 100000
namespace Go.Proofs.YtikhphdimgcbkaaGreatDoor
open Go Go.ChangeShapes Go.WideShapes Go.ChangeAt Go.RowKit
theorem j0 : (Rows.harnessDiffersRow.wf (OpenSpec.ofChange Rows.harnessDiffersSpec)) = true := by kernel_rfl
theorem j1 : (laidOutB Tryz.prog) = true := laidOut
theorem j2 : (mapsRowed Tryz.prog) = true := by kernel_rfl
theorem j3 : (Tryz.f3.params.all (Tryz.prog.readableRec ·)) = true := by kernel_rfl
theorem j4 : (namedTie Tryz.prog Rows.harnessDiffersRow.named Rows.harnessDiffersSpec.vars) = true := by kernel_rfl
theorem j5 : ((Rows.harnessDiffersRow.stops == [])) = true := by kernel_rfl
theorem j6 : ((Tryz.prog.stops == [])) = true := by kernel_rfl
theorem j7 : ((Rows.harnessDiffersRow.knobs == [])) = true := by kernel_rfl
theorem j8 : ((Tryz.prog.stopKnobs == [])) = true := by kernel_rfl
theorem j9 : ((Rows.harnessDiffersRow.inPlace == Tryz.prog.inPlace 3)) = true := by kernel_rfl
theorem j10 : ((Rows.harnessDiffersRow.unfollowed == Tryz.prog.unfollowed 3)) = true := by kernel_rfl
theorem j11 : ((Rows.harnessDiffersRow.recurses == Tryz.prog.recurses 3)) = true := by kernel_rfl
theorem j12 : ((Rows.harnessDiffersRow.named == Tryz.prog.varsNamed 3)) = true := by kernel_rfl
theorem j13 : ((Rows.harnessDiffersRow.maps == (Tryz.f3.params.toList ++ Rows.harnessDiffersSpec.plain.varTypes Tryz.prog).any (Tryz.prog.mapsRec ·))) = true := by kernel_rfl
theorem j14 : ((Rows.harnessDiffersRow.ifaces == (Tryz.f3.params.toList ++ Rows.harnessDiffersSpec.plain.varTypes Tryz.prog).any (Tryz.prog.ifacesRec ·))) = true := by kernel_rfl
theorem j15 : ((Rows.harnessDiffersRow.mapsOut == Tryz.prog.mapsAmong Tryz.f3.resultTypes.toList)) = true := by kernel_rfl
theorem j16 : ((Rows.harnessDiffersRow.loops == (Tryz.f3.params.toList ++ Rows.harnessDiffersSpec.plain.varTypes Tryz.prog).any (Tryz.prog.loopsFrom ·))) = true := by kernel_rfl
theorem j17 : ((Rows.harnessDiffersRow.wideKeys == (Tryz.f3.params.toList ++ Rows.harnessDiffersSpec.plain.varTypes Tryz.prog ++ Tryz.f3.resultTypes.toList).any (Tryz.prog.wideKeysFrom ·))) = true := by kernel_rfl
theorem j18 : (Rows.harnessDiffersSpec.vars.all (Tryz.prog.varReadable ·)) = true := by kernel_rfl
theorem j19 : (Tryz.f3.resultTypes.all (fun t => Tryz.prog.readableRec t && decide (t < Tryz.prog.types.size))) = true := by kernel_rfl
theorem j20 : ((Rows.harnessDiffersRow.ifacesOut == Tryz.f3.resultTypes.toList.any (Tryz.prog.ifacesRec ·))) = true := by kernel_rfl
theorem j21 : ((Rows.harnessDiffersRow.loopsOut == Tryz.f3.resultTypes.toList.any (Tryz.prog.loopsFrom ·))) = true := by kernel_rfl
theorem j22 : ((Rows.harnessDiffersRow.plainKeys == Tryz.prog.plainKeys)) = true := by kernel_rfl
theorem j23 : (Rows.harnessDiffersRow.shortTexts.isNone) = true := by kernel_rfl
theorem j24 : (Tryz.prog.stopsHeard) = true := by kernel_rfl
theorem j25 : (Tryz.prog.mayEnter) = true := by kernel_rfl
theorem j26 : ((Rows.harnessDiffersRow.lifted == Tryz.prog.liftsFinal)) = true := by kernel_rfl
theorem j27 : ((Tryz.prog.make == some Rows.harnessDiffersRow.make)) = true := by kernel_rfl
theorem j28 : ((Rows.harnessDiffersRow.kinds == (if Rows.harnessDiffersRow.domain.isEmpty then [] else Tryz.f3.params.toList.map fun t => match Tryz.prog.underlying t with | some (.int k) => some k | _ => none))) = true := by kernel_rfl
theorem j29 : ((Rows.harnessDiffersRow.pinned == Rows.harnessDiffersRow.pinnedBy)) = true := by kernel_rfl
theorem j30 : ((Rows.harnessDiffersRow.veiled == (Tryz.f3.params.toList ++ Rows.harnessDiffersSpec.plain.varTypes Tryz.prog ++ Tryz.f3.resultTypes.toList).any (Tryz.prog.veiledRec ·))) = true := by kernel_rfl
theorem j31 : (Rows.harnessDiffersRow.veiledFits Tryz.prog Tryz.f3.params.toList (Tryz.f3.params.toList ++ Rows.harnessDiffersSpec.plain.varTypes Tryz.prog ++ Tryz.f3.resultTypes.toList)) = true := by kernel_rfl
end Go.Proofs.YtikhphdimgcbkaaGreatDoor
