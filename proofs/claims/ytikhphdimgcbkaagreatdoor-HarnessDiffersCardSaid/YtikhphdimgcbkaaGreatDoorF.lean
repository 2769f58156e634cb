/-
  The contracts of the library's functions over this seat's program. No condition.
-/
import Derived.Test.YtikhphdimgcbkaaGreatDoorE
set_option linter.unusedSectionVars false
set_option linter.unusedVariables false
set_option linter.unusedSimpArgs false
set_option maxRecDepth 1000000
namespace Go.Proofs.YtikhphdimgcbkaaGreatDoor
open Go Go.AE

theorem dn_spec {f : Nat} (h : dn f = true) : f = 57 ∨ f = 63 ∨ f = 69 ∨ f = 73 ∨ f = 76 ∨ f = 178 := by
  unfold dn at h
  simp only [memN] at h
  split at h; · rename_i e; exact .inl (Nat.eq_of_beq_eq_true e)
  split at h; · rename_i e; exact .inr (.inl (Nat.eq_of_beq_eq_true e))
  split at h; · rename_i e; exact .inr (.inr (.inl (Nat.eq_of_beq_eq_true e)))
  split at h; · rename_i e; exact .inr (.inr (.inr (.inl (Nat.eq_of_beq_eq_true e))))
  split at h; · rename_i e; exact .inr (.inr (.inr (.inr (.inl (Nat.eq_of_beq_eq_true e)))))
  split at h; · rename_i e; exact .inr (.inr (.inr (.inr (.inr (Nat.eq_of_beq_eq_true e)))))
  cases h

theorem contains_does (s sub : ByteArray) (w : World) (hb : glob.Base w) (hs : s.size < 4294967281) : Does Tryz.prog 327 #[.string s, .string sub] w fun e w' => e = .returned (.bool (Lib.contains s.data.toList sub.data.toList)) ∧ w' = w := by
  obtain ⟨m, hm⟩ := hb
  exact does_enter Tryz.func327 (by kernel_rfl) rfl (Tryz.strings_Contains s sub m w hs hm)

theorem idle57 (args : Array Value) (w : World) : (callFunc 57 args).run Tryz.prog w = .ok (.enter 57 args) w ∧ CallsD Tryz.prog 57 args .returning w fun e u w' => (∃ v, e = .returned v) ∧ u = .returning ∧ Keeps w w' := by
  have h1 := callFunc_enter (P := Tryz.prog) (f := 57) (fn := Tryz.f57) (args := args) (w := w) Tryz.func57 (by kernel_rfl) rfl
  have h2 := idle_calls (P := Tryz.prog) (f := 57) (fn := Tryz.f57) Tryz.func57 rfl rfl rfl Tryz.underlying20 (by decide) (by decide) rfl args w
  exact ⟨h1, h2⟩
theorem idle63 (args : Array Value) (w : World) : (callFunc 63 args).run Tryz.prog w = .ok (.enter 63 args) w ∧ CallsD Tryz.prog 63 args .returning w fun e u w' => (∃ v, e = .returned v) ∧ u = .returning ∧ Keeps w w' := by
  have h1 := callFunc_enter (P := Tryz.prog) (f := 63) (fn := Tryz.f63) (args := args) (w := w) Tryz.func63 (by kernel_rfl) rfl
  have h2 := idle_calls (P := Tryz.prog) (f := 63) (fn := Tryz.f63) Tryz.func63 rfl rfl rfl Tryz.underlying20 (by decide) (by decide) rfl args w
  exact ⟨h1, h2⟩
theorem idle69 (args : Array Value) (w : World) : (callFunc 69 args).run Tryz.prog w = .ok (.enter 69 args) w ∧ CallsD Tryz.prog 69 args .returning w fun e u w' => (∃ v, e = .returned v) ∧ u = .returning ∧ Keeps w w' := by
  have h1 := callFunc_enter (P := Tryz.prog) (f := 69) (fn := Tryz.f69) (args := args) (w := w) Tryz.func69 (by kernel_rfl) rfl
  have h2 := idle_calls (P := Tryz.prog) (f := 69) (fn := Tryz.f69) Tryz.func69 rfl rfl rfl Tryz.underlying20 (by decide) (by decide) rfl args w
  exact ⟨h1, h2⟩
theorem idle73 (args : Array Value) (w : World) : (callFunc 73 args).run Tryz.prog w = .ok (.enter 73 args) w ∧ CallsD Tryz.prog 73 args .returning w fun e u w' => (∃ v, e = .returned v) ∧ u = .returning ∧ Keeps w w' := by
  have h1 := callFunc_enter (P := Tryz.prog) (f := 73) (fn := Tryz.f73) (args := args) (w := w) Tryz.func73 (by kernel_rfl) rfl
  have h2 := idle_calls (P := Tryz.prog) (f := 73) (fn := Tryz.f73) Tryz.func73 rfl rfl rfl Tryz.underlying20 (by decide) (by decide) rfl args w
  exact ⟨h1, h2⟩
theorem idle76 (args : Array Value) (w : World) : (callFunc 76 args).run Tryz.prog w = .ok (.enter 76 args) w ∧ CallsD Tryz.prog 76 args .returning w fun e u w' => (∃ v, e = .returned v) ∧ u = .returning ∧ Keeps w w' := by
  have h1 := callFunc_enter (P := Tryz.prog) (f := 76) (fn := Tryz.f76) (args := args) (w := w) Tryz.func76 (by kernel_rfl) rfl
  have h2 := idle_calls (P := Tryz.prog) (f := 76) (fn := Tryz.f76) Tryz.func76 rfl rfl rfl Tryz.underlying20 (by decide) (by decide) rfl args w
  exact ⟨h1, h2⟩
theorem idle178 (args : Array Value) (w : World) : (callFunc 178 args).run Tryz.prog w = .ok (.enter 178 args) w ∧ CallsD Tryz.prog 178 args .returning w fun e u w' => (∃ v, e = .returned v) ∧ u = .returning ∧ Keeps w w' := by
  have h1 := callFunc_enter (P := Tryz.prog) (f := 178) (fn := Tryz.f178) (args := args) (w := w) Tryz.func178 (by kernel_rfl) rfl
  have h2 := idle_calls (P := Tryz.prog) (f := 178) (fn := Tryz.f178) Tryz.func178 rfl rfl rfl Tryz.underlying20 (by decide) (by decide) rfl args w
  exact ⟨h1, h2⟩
theorem f369a : (Tryz.f369.name == "runtime.NumGoroutine") = false := by kernel_rfl
theorem f369b : Tryz.f369.body.isNone = true := by kernel_rfl
theorem f369c : Extern.findNext Tryz.f369 = none := by kernel_rfl
theorem f369d : Extern.find Tryz.f369 = some Extern.BytealgIndexByte.indexByte := by kernel_rfl
theorem f214a : (Tryz.f214.name == "runtime.NumGoroutine") = false := by kernel_rfl
theorem f214b : Tryz.f214.body.isNone = true := by kernel_rfl
theorem f214c : Extern.findNext Tryz.f214 = none := by kernel_rfl
theorem f214d : Extern.find Tryz.f214 = some Extern.MapsClone.clone := by kernel_rfl
theorem ixb0 (xs : List AV) (v : AV) (h : ixb1 xs = some v) (φ : Phi) (w : World) (xs' : Array Value) (hr : VRels φ xs xs'.toList) : Does Tryz.prog 369 xs' w fun e w' => ∃ v', e = .returned v' ∧ Keeps w w' ∧ VRel φ v v' := by
  have := ixb_ok (P := Tryz.prog) (f := 369) (fn := Tryz.f369) Tryz.func369 f369a f369b f369c f369d xs v h φ w xs' hr
  exact this
theorem clone0 (t r : Nat) (es : Array MapEntry) (c : Nat) (w : World) (h : w.heap[r]? = some (.map es c)) :
    (callFunc 214 #[.iface t (.map (some r))]).run Tryz.prog w = .ok (.value (.iface t (.map (some w.heap.size)))) { w with heap := w.heap.push (.map es c) } := by
  have := clone_ok (P := Tryz.prog) (f := 214) (fn := Tryz.f214) Tryz.func214 f214a f214b f214c f214d t r es c w h
  exact this
theorem ext0_ok : ∀ f g xs v, ext0 f = some g → g xs = some v → ∀ (φ : Phi) (w : World) (xs' : Array Value), VRels φ xs xs'.toList →
    Does Tryz.prog f xs' w fun e w' => ∃ v', e = .returned v' ∧ Keeps w w' ∧ VRel φ v v' := by
  intro f g xs v hg hx
  unfold ext0 at hg
  split at hg
  · rename_i e
    have := Nat.eq_of_beq_eq_true e; subst this
    cases hg
    exact ixb0 xs v hx
  · cases hg
theorem dn_ok : ∀ f, dn f = true → ∀ (args : Array Value) (w : World), (callFunc f args).run Tryz.prog w = .ok (.enter f args) w ∧ CallsD Tryz.prog f args .returning w fun e u w' => (∃ v, e = .returned v) ∧ u = .returning ∧ Keeps w w' := by
  intro f hf
  rcases dn_spec hf with h | h | h | h | h | h
  · rw [h]; exact idle57
  · rw [h]; exact idle63
  · rw [h]; exact idle69
  · rw [h]; exact idle73
  · rw [h]; exact idle76
  · rw [h]; exact idle178
theorem calls_of {E : Env} (h1 : E.fn = fnT.get) (h2 : ∀ f g xs h v h', E.nat f = some g → g xs h = some (v, h') → CallOK Tryz.prog f xs h v h') (h3 : E.ext = ext0) (h4 : E.clone = Nat.beq 214) (h5 : E.dnat = dn) : E.Calls Tryz.prog where
  fn := fns_of (d := 10) h1 fnok0 fndraw0
  nat := h2
  ext := by rw [h3]; exact ext0_ok
  clone := fun f hf => by
    rw [h4] at hf
    rw [← Nat.eq_of_beq_eq_true hf]
    exact clone0
  dnat := by rw [h5]; exact dn_ok

theorem nat0_ok : ∀ f g xs h v h', nat0 f = some g → g xs h = some (v, h') → CallOK Tryz.prog f xs h v h' := by
  intro f g xs h v h' hg hx
  unfold nat0 at hg
  split at hg
  · rename_i e
    have := Nat.eq_of_beq_eq_true e; subst this
    cases hg
    exact contains_ok (fun s sub w hb hs => contains_does s sub w hb hs) xs h v h' hx
  · cases hg
theorem calls0 : E0.Calls Tryz.prog := calls_of rfl nat0_ok rfl rfl rfl
theorem sound0 (n : Nat) : Sound Tryz.prog E0 (ev E0 n) := ev_sound typed0 eqs0 meths0 calls0 (by kernel_rfl) n
end Go.Proofs.YtikhphdimgcbkaaGreatDoor
