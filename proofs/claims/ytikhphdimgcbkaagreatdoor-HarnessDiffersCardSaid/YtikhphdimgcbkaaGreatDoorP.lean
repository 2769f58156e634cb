/-
  THE ROW OF HarnessDiffers, PROVED: whatever two lists of lists come in, the law returns true, and they read behind the call as they read before. No condition beyond the row's own.
-/
import Derived.Test.YtikhphdimgcbkaaGreatDoorRows
import Derived.Test.YtikhphdimgcbkaaGreatDoorW3
import Derived.Test.YtikhphdimgcbkaaGreatDoorP0
import Derived.ProofKit
import Derived.LaidMore
import Derived.OpenShut
import Derived.Stop.Joined
import Derived.Deep.Matrix
import Derived.Shelf.Vars
set_option linter.unusedVariables false
set_option linter.unusedSimpArgs false
set_option maxRecDepth 100000
namespace Go.Proofs.YtikhphdimgcbkaaGreatDoor
open Go Go.ChangeShapes Go.WideShapes Go.ChangeAt Go.WideElems Go.RowKit Go.Deep

/-- the kit's wrap for a row that lists variables, with the world's shape handed on -/
theorem returns_listed {H : Type} {enc : TypeId × Value → H} {a : Assume} {C : Checked} {os : Os} {f : FuncId} {fn : Func} {s : ChangeSpec} {conds : List PathCond} {apart fresh handsOn again : Bool} {X : World → Array Value → Prop}
    (hX : ∀ (w w' : World) (args : Array Value), w.heap = w'.heap → X w args → X w' args)
    (own : ownKnob C.prog.godebug = none) (started : os.Started) (noInit : C.prog.inits.idxOf? f = none) (hfn : C.prog.funcs[f]? = some fn)
    (witness : ∃ (w : World) (tape : Tape) (i : Input), w.os = os ∧ (w.forCall tape i).Shaped C.prog ∧ i.vars = [] ∧ Input.okWide C.prog (w.forCall tape i) .any w.heap.size f i ∧
      ((s.pre enc C.prog fn conds apart (w.forCall tape i).memory i.args ∧ X (w.forCall tape i).memory i.args) ∧ sizedMet enc C.prog fn (OpenSpec.ofChange s) apart (w.forCall tape i).memory i.args) ∧ a.holds C.prog (lone (Frame.enter C.prog f i.args .normal) [] (w.forCall tape i)))
    (contract : ∀ (W : World) (base : Nat) (args : Array Value) (ds gs : List (DataW H)) (before : List MemPlace),
      (∀ (j : Nat) t v, fn.params[j]? = some t → args[j]? = some v → Value.okWide C.prog W .any base t v) →
      DataW.Whole enc C.prog fn.params.toList s.vars apart W args.toList ds gs before →
      conds.all (PathCond.test C.prog ⟨fn.params.toList, ds, s.plain.varTypes C.prog, gs⟩) = true →
      W.ShapedOpen C.prog → X W args →
      Calls C.prog f args W fun e W' => ∃ v, e = .returned v ∧ s.post enc C.prog fn apart fresh handsOn again W args v W') :
    ReturnsInHanded a C os f .any (fun w args => (s.pre enc C.prog fn conds apart w args ∧ X w args) ∧ sizedMet enc C.prog fn (OpenSpec.ofChange s) apart w args) (s.post enc C.prog fn apart fresh handsOn again) := by
  refine returnsInHanded_of_calls own started noInit witness ?_
  intro w tape i _ hsh _ hok hpre hholds
  obtain ⟨_, _, _, fn', hfn', _, _, _, _, hval⟩ := hok
  have e : fn' = fn := Option.some.inj (hfn'.symm.trans hfn)
  subst e
  obtain ⟨⟨⟨ds, gs, before, hw, hc⟩, hx⟩, hz⟩ := hpre
  have hw' := DataW.Whole.of_heap (w' := w.forCall tape i) (by rfl) hw
  refine (contract (w.forCall tape i) w.heap.size i.args ds gs before hval hw' hc hsh (hX _ _ _ (by rfl) hx)).mono fun e W' ⟨v, he, hp⟩ => ?_
  subst he
  exact ChangeSpec.post_blind hp


/-- below the old heap's size nothing has turned -/
theorem Stays.block {W W' : World} (hs : Stays W W') (k : Nat) (hk : k < W.heap.size) : W'.heap[k]? = W.heap[k]? := by
  rw [hs.2.1 k _ (Array.getElem?_eq_getElem hk), Array.getElem?_eq_getElem hk]
theorem Stays.below {W W' : World} (hs : Stays W W') : Below W.heap.size W { W' with tape := W.tape } :=
  ⟨hs.2.2.os, rfl, hs.2.2.output, hs.1, fun k hk => hs.block k hk⟩
theorem Stays.trod {H : Type} {enc : TypeId × Value → H} {t : TypeId} (hr : Tryz.prog.readableRec t = true) (hrow : t < Tryz.prog.types.size) {W W' : World} {v : Value} {d : DataW H} {ps : List MemPlace} (hs : Stays W W')
    (h : DataW.Trod enc Tryz.prog W 0 (fun _ => true) true t v d ps) (hlt : ∀ x ∈ ps, x.block < W.heap.size) {sp : Nat → Bool} (hsp : ∀ x ∈ ps, sp x.block = true) : DataW.Trod enc Tryz.prog W' 0 sp true t v d ps :=
  DataW.Trod.of_heap (w := { W' with tape := W.tape }) (w' := W') rfl (Trod_stays laidOut hr hrow h (fun x hx => hs.below.same (hlt x hx)) hsp)
theorem Stays.kept {W W' : World} (hs : Stays W W') (may : MemPlace → Prop) : W.keptBut W' may := hs.below.frame may

theorem Stays.cell {w w' : World} {a : Addr} {v : Value} (hs : Stays w w') (h : w.cell? a = some v) : w'.cell? a = some v :=
  (World.cell?_of_block (w := w) (hs.block a.block (World.block_lt_of_cell? w a h))).trans h

/-- what an argument reads as gives what the walk asks for -/
theorem rows_of {H : Type} {enc : TypeId × Value → H} {W : World} {base : Nat} {v : Value} {d : DataW H} {p : List MemPlace} (hv : Value.okWide Tryz.prog W .any base 22 v) (h : DataW.Trod enc Tryz.prog W 0 (fun _ => true) true 22 v d p) :
    ∃ AA la ca A L C Z, v = .slice AA la ca ∧ ∀ w', Stays W w' → Rows2 w' AA la A L C Z := by
  obtain ⟨n, hn⟩ := h
  obtain ⟨a0, l0, c0, rfl⟩ := okWide_slice Tryz.underlying22 hv
  rcases open_int_rows Tryz.underlying22 Tryz.underlying24 Tryz.underlying21 cells24 cells21 hn with ⟨hc, hx⟩ | ⟨a, len, cap, A, L, C, Z, hc, hb, hl, hm, hx, hr⟩
  · simp only [Value.cells, List.cons.injEq, Value.slice.injEq, and_true] at hc
    obtain ⟨rfl, rfl, rfl⟩ := hc
    exact ⟨none, 0, 0, fun _ => none, fun _ => 0, fun _ => 0, fun _ => [], rfl, fun w' hs => ⟨fun _ => rfl, Nat.zero_le _, (fun _ e => by cases e), fun r hr => by omega⟩⟩
  · simp only [Value.cells, List.cons.injEq, Value.slice.injEq, and_true] at hc
    obtain ⟨rfl, rfl, rfl⟩ := hc
    refine ⟨some a, l0, c0, A, L, C, Z, rfl, fun w' hs => ⟨(fun e => by cases e), by omega, ?_, ?_⟩⟩
    · intro a' e r hr'
      cases e
      exact hs.cell (hr r (by omega)).1
    · intro r hr'
      obtain ⟨_, h2, h3, _, _, h6, h7⟩ := hr r (by omega)
      exact ⟨by omega, (fun e => by have := h6 e; omega), fun a' e c hc => hs.cell ((h7 a' e).2 c (by omega))⟩
end Go.Proofs.YtikhphdimgcbkaaGreatDoor
