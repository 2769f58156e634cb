/-
  The document's example at each level, reckoned by the kernel: it is as it must be. No condition.
-/
import Derived.Test.YtikhphdimgcbkaaGreatDoorK1
set_option linter.unusedSectionVars false
set_option linter.unusedVariables false
set_option linter.unusedSimpArgs false
set_option maxRecDepth 1000000
namespace Go.Proofs.YtikhphdimgcbkaaGreatDoor
open Go Go.AE


noncomputable def cmp1 (xs : List AV) (h : Heap) : Option (AV × Heap) := match AV.eqs xs cmpArgs && Nat.beq h.nx 0 with
  | true => pasteK cmpL h.t fun t => some (cmpV, ⟨t, cmpN⟩)
  | false => none
noncomputable def nat1 (f : Nat) : Option (List AV → Heap → Option (AV × Heap)) := match Nat.beq f 7 with | true => some cmp1 | false => nat0 f
noncomputable def E1 : Env := { ty := tyT.get, fn := fnT.get, nat := nat1, ext := ext0, dnat := dn, meth := meth1, clone := Nat.beq 214, eqT := eq0 }
theorem awake_run : Go.AE.isTrue (ev E1 100000 (.call 4 [] ⟨.nil, 0⟩)) = true := by decide +kernel

theorem cmp1_ok (xs : List AV) (h : Heap) (v : AV) (h' : Heap) (hx : cmp1 xs h = some (v, h')) : CallOK Tryz.prog 7 xs h v h' := by
  unfold cmp1 at hx
  split at hx
  · rename_i hc
    simp only [Bool.and_eq_true] at hc
    rw [pasteK_eq] at hx
    cases hx
    rw [AV.eqs_true hc.1]
    exact pasted sound0 cmp_run (by decide) (Nat.eq_of_beq_eq_true hc.2)
  · cases hx
theorem nat1_ok (f : Nat) (g) (xs : List AV) (h : Heap) (v : AV) (h' : Heap) (hg : nat1 f = some g) (hx : g xs h = some (v, h')) : CallOK Tryz.prog f xs h v h' := by
  unfold nat1 at hg
  split at hg
  · rename_i e
    cases hg
    rw [Nat.eq_of_beq_eq_true e]
    exact cmp1_ok xs h v h' hx
  · exact nat0_ok f g xs h v h' hg hx
theorem typed1 : E1.Typed Tryz.prog := ⟨typed0.ty, typed0.zs⟩
theorem eqs1 : E1.Eqs Tryz.prog := ⟨eqs0.eqs⟩
theorem meths1 : E1.Meths Tryz.prog := ⟨meths0.meth⟩
theorem calls1 : E1.Calls Tryz.prog := calls_of rfl nat1_ok rfl rfl rfl
theorem sound1 (n : Nat) : Sound Tryz.prog E1 (ev E1 n) := ev_sound typed1 eqs1 meths1 calls1 (by kernel_rfl) n

/-- what was there stays as it was -/
def Stays (w w' : World) : Prop := w.heap.size ≤ w'.heap.size ∧ (∀ (c : Nat) ob, w.heap[c]? = some ob → w'.heap[c]? = some ob) ∧ Quiet w w'

theorem awake_true (w : World) (hb : glob.Base w) : Calls Tryz.prog 4 #[] w fun e w' => e = .returned (.bool true) ∧ Stays w w' := by
  have hr := awake_run
  unfold Go.AE.isTrue at hr
  split at hr
  · rename_i h' he
    have hc := (sound1 100000).call 4 [] ⟨.nil, 0⟩ (.bool true) h' he
    have hw : WRel (fun _ => none) ⟨.nil, 0⟩ w := ⟨fun b o im hg => by simp [Heap.get, Tr.get_nil] at hg, fun b im h => by simp at h, fun b b' im im' hg => by simp [Heap.get, Tr.get_nil] at hg, fun b _ => rfl, Nat.zero_le _, hb, fun b im hg => by simp [Heap.get, Tr.get_nil] at hg⟩
    have hd := hc (fun _ => none) w #[] hw (VRels.nil _) (fun b _ _ => rfl)
    unfold Does at hd
    rw [callFunc_enter (P := Tryz.prog) (f := 4) (fn := Tryz.f4) (args := #[]) (w := w) Tryz.func4 (by kernel_rfl) rfl] at hd
    refine Calls.mono hd fun e w' ⟨v', φ', h1, h2, h3, h4⟩ => ?_
    simp only [VRel] at h4
    subst h4
    exact ⟨h1, h3.size, (fun c ob hcb => h3.cfr c ob hcb fun b im _ hl => absurd rfl hl), h3.qt⟩
  · cases hr
end Go.Proofs.YtikhphdimgcbkaaGreatDoor
