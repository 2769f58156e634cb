/-
  Closed facts of the row, one by one (part 2). No condition.
-/
import Derived.Test.YtikhphdimgcbkaaGreatDoorRows
import Derived.ProofKit
import Derived.JoinedOf
import Derived.Test.YtikhphdimgcbkaaGreatDoorP0
import Derived.Test.YtikhphdimgcbkaaGreatDoorP2
set_option maxRecDepth 100000
namespace Go.Proofs.YtikhphdimgcbkaaGreatDoor
open Go Go.ChangeShapes Go.WideShapes Go.ChangeAt Go.RowKit
theorem andT {a b : Bool} (h : a = true) (k : b = true) : (a && b) = true := by rw [h, k]; rfl
theorem joined : joinedFacts Tryz.prog 3 Tryz.f3 Rows.harnessDiffersSpec Rows.harnessDiffersRow = true := andT (andT (andT (andT (andT (andT (andT (andT (andT (andT (andT (andT (andT (andT (andT (andT (andT (andT (andT (andT (andT (andT (andT (andT (andT (andT (andT (andT (andT (andT (andT j0 j1) j2) j3) j4) j5) j6) j7) j8) j9) j10) j11) j12) j13) j14) j15) j16) j17) j18) j19) j20) j21) j22) j23) j24) j25) j26) j27) j28) j29) j30) j31
end Go.Proofs.YtikhphdimgcbkaaGreatDoor
