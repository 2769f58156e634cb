/-
  Closed facts of the card. No condition.
-/
import Derived.Test.YtikhphdimgcbkaaGreatDoorRows
import Derived.Test.YtikhphdimgcbkaaGreatDoorCards
import Derived.ProofKit
import Derived.SevenTiedAt
set_option maxRecDepth 100000
namespace Go.Proofs.YtikhphdimgcbkaaGreatDoor
open Go
theorem c_wf : Rows.harnessDiffersRow.wfByText (OpenSpec.ofChange Rows.harnessDiffersSpec) = true := by kernel_rfl
theorem c_main : Tryz.prog.mainIs = some (true, "5defecef22ceee6678094bdfeb924678600766a789a823c3af945f7fe2fb57a7".toList) := by kernel_rfl
theorem c_named : Tryz.prog.funcNamed "metronome/metronomelaw27.HarnessDiffers" = some 3 := by kernel_rfl
theorem c_wants : Tryz.prog.wantsStandIn 22 = false := by kernel_rfl
theorem c_looks : true = Tryz.prog.looks [] := by kernel_rfl
theorem none_goes : Tryz.prog.funcs.toList.all (fun g => !g.goes) = true := by kernel_rfl
theorem goes_none {P : Program} (h : P.funcs.toList.all (fun g => !g.goes) = true) (f : FuncId) : P.goes f = false := by
  have h1 : ∀ g ∈ P.funcs, g.goes = false := fun g hg => by simpa using List.all_eq_true.1 h g (Array.mem_toList_iff.2 hg)
  have h2 : P.funcs.any Func.goes = false := by
    rw [Array.any_eq_false]
    intro i hi
    simp [h1 _ (Array.getElem_mem hi)]
  have h3 : ((P.closure f).any fun g => (P.funcs[g]?).any Func.goes) = false := by
    rw [List.any_eq_false]
    intro g _
    cases e : P.funcs[g]? with
    | none => simp
    | some fn => simp [h1 fn (Array.mem_of_getElem? e)]
  unfold Program.goes
  rw [h2, h3]
  simp
theorem goes_row {P : Program} {c : OpenClaim} {f : FuncId} (hn : P.funcNamed c.func = some f) (hs : c.start = .entering) (h : P.funcs.toList.all (fun g => !g.goes) = true) : false = c.goesBy P := by
  unfold OpenClaim.goesBy Program.goesAt Program.goesFrom
  rw [hn, hs]
  simp [goes_none h]
theorem c_goes : false = Rows.harnessDiffersRow.goesBy Tryz.prog := goes_row (f := 3) c_named rfl none_goes
end Go.Proofs.YtikhphdimgcbkaaGreatDoor
