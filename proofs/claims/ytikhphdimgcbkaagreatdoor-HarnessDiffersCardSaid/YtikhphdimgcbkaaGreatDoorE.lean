/-
  The seat's tables for the evaluator, and that they are the program's own. No condition.
-/
import Derived.Test.YtikhphdimgcbkaaGreatDoorA3
import Derived.Test.YtikhphdimgcbkaaGreatDoorShelf
import Derived.Test.YtikhphdimgcbkaaGreatDoorProg
set_option linter.unusedSectionVars false
set_option linter.unusedVariables false
set_option linter.unusedSimpArgs false
set_option maxRecDepth 1000000
namespace Go.Proofs.YtikhphdimgcbkaaGreatDoor
open Go Go.AE

theorem lt_of_cell {w : World} {b o : Nat} {v : Value} (h : w.cell? ⟨b, o, none⟩ = some v) : b < w.heap.size := by
  apply Classical.byContradiction
  intro hn
  have : w.heap[b]? = none := Array.getElem?_eq_none (by omega)
  simp [World.cell?, this] at h
theorem cell_same {w w' : World} {b o : Nat} (h : w'.heap[b]? = w.heap[b]?) : w'.cell? ⟨b, o, none⟩ = w.cell? ⟨b, o, none⟩ := by
  simp only [World.cell?, h]

instance glob : Glob where
  gN := 2
  Base := fun w => ∃ m : Int, w.cell? ⟨1, 0, none⟩ = some (.int .i64 m)
  size := fun w ⟨m, h⟩ => lt_of_cell h
  stay := fun w w' ⟨m, h⟩ _ hk => by
    have hlt := lt_of_cell h
    refine ⟨m, ?_⟩
    rw [cell_same (w := w) (w' := w')]
    · exact h
    · have := hk 1 _ (by omega) (Array.getElem?_eq_getElem hlt)
      rw [this, Array.getElem?_eq_getElem hlt]

noncomputable def tyT : Tr Ty := Tr.build 10 (tyOf Tryz.prog)
noncomputable def fnT : Tr Func := Tr.build 10 (fun f => Tryz.prog.funcs[f]?)
noncomputable def nat0 (f : Nat) : Option (List AV → Heap → Option (AV × Heap)) := match Nat.beq f 327 with | true => some contains1 | false => none
def ext0 (f : Nat) : Option (List AV → Option AV) := match Nat.beq f 369 with | true => some ixb1 | false => none
def meth0 (t : Nat) : Option Nat := match t with | 85 => some 422 | 88 => some 454 | 91 => some 471 | 94 => some 477 | _ => none
def meth1 (t : Nat) (name : String) : Option Nat := match name == "Step" with | true => meth0 t | false => none
def dn (f : Nat) : Bool := memN f [57, 63, 69, 73, 76, 178]
def eq0 (t : Nat) : Option (List TD) := match Nat.beq t 169 with
  | true => some [.int .u8, .string]
  | false => match Nat.beq t 301 with
    | true => some [.string, .string]
    | false => none
noncomputable def E0 : Env := { ty := tyT.get, fn := fnT.get, nat := nat0, ext := ext0, dnat := dn, meth := meth1, clone := Nat.beq 214, eqT := eq0 }

theorem typed0 : E0.Typed Tryz.prog := typed_of (d := 10) rfl (by decide +kernel)
theorem eqs0 : E0.Eqs Tryz.prog := flat_eqs' fun t ts h => by
  have h : eq0 t = some ts := h
  unfold eq0 at h
  split at h
  · rename_i e; have := Nat.eq_of_beq_eq_true e; subst this; cases h; decide +kernel
  · split at h
    · rename_i e; have := Nat.eq_of_beq_eq_true e; subst this; cases h; decide +kernel
    · cases h

/-- has a type the method Step, of a function, of its own? -/
noncomputable def stepOK (t f : Nat) : Bool := match Tryz.prog.info? t, Tryz.prog.underlying t with
  | some i, some (.pointer _) => (match i.methods.find? (·.name == "Step") with | some m => m.path.isEmpty && (match m.func with | some (g, b) => Nat.beq g f && b | none => false) | none => false)
  | _, _ => false
theorem stepOK_spec {t f : Nat} (h : stepOK t f = true) : ∃ i m, Tryz.prog.info? t = some i ∧ i.methods.find? (·.name == "Step") = some m ∧ m.path = #[] ∧ m.func = some (f, true) ∧ ∃ e, Tryz.prog.underlying t = some (.pointer e) := by
  unfold stepOK at h
  split at h
  · rename_i i e hi hu
    split at h
    · rename_i m hm
      simp only [Bool.and_eq_true] at h
      obtain ⟨h1, h2⟩ := h
      split at h2
      · rename_i g b hg
        simp only [Bool.and_eq_true] at h2
        have := Nat.eq_of_beq_eq_true h2.1
        exact ⟨i, m, hi, hm, by simpa using h1, by rw [hg, this, h2.2], e, hu⟩
      · cases h2
    · cases h
  · cases h
theorem meths0 : E0.Meths Tryz.prog := ⟨fun t name f h => by
  have h : meth1 t name = some f := h
  unfold meth1 at h
  split at h
  · rename_i hn
    have hn : name = "Step" := by simpa using hn
    subst hn
    have h : meth0 t = some f := h
    unfold meth0 at h
    split at h
    · cases h; exact stepOK_spec (by decide +kernel)
    · cases h; exact stepOK_spec (by decide +kernel)
    · cases h; exact stepOK_spec (by decide +kernel)
    · cases h; exact stepOK_spec (by decide +kernel)
    · cases h
  · cases h⟩

theorem fnok0 : (Tr.build 10 fun f => Tryz.prog.funcs[f]?).all fnOK = true := by decide +kernel
theorem fndraw0 : (Tr.build 10 fun f => Tryz.prog.funcs[f]?).all fnDraw = true := by decide +kernel
end Go.Proofs.YtikhphdimgcbkaaGreatDoor
