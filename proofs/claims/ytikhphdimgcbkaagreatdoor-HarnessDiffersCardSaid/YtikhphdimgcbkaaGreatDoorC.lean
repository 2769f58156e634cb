/-
  THE CARD OF HarnessDiffers, PROVED: the row, with what it lists tied to the program's text. No condition beyond the card's own.
-/
import Derived.Test.YtikhphdimgcbkaaGreatDoorQ
import Derived.Test.YtikhphdimgcbkaaGreatDoorC0
import Derived.Test.YtikhphdimgcbkaaGreatDoorTie
set_option maxRecDepth 100000
namespace Go.Proofs.YtikhphdimgcbkaaGreatDoor
open Go
theorem harnessDiffers_card : Rows.HarnessDiffersCardSaid :=
  Claim7.holds_tied_plain_at .later [] [.data, .data, .data] true (true, "5defecef22ceee6678094bdfeb924678600766a789a823c3af945f7fe2fb57a7") true
    harnessDiffers_holds (fun _ h => by cases h) c_wf (fun _ h => by cases h) harnessDiffers_row_tie rfl ⟨rfl, rfl⟩ c_main rfl
    (fun f fn hf hfn => by
      obtain rfl : f = 3 := Option.some.inj (c_named.symm.trans hf) |>.symm
      obtain rfl : fn = Tryz.f3 := (Option.some.inj (Tryz.func3.symm.trans hfn)).symm
      exact ⟨c_looks, fun j t ht => by
        rw [Tryz.params3] at ht
        have hm : t ∈ [22, 22] := by simpa using Array.mem_of_getElem? ht
        have h22 : t = 22 := by simpa using hm
        subst h22
        exact c_wants⟩)
    c_goes
end Go.Proofs.YtikhphdimgcbkaaGreatDoor
