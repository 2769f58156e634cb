/-
  A plain evaluator for the model's code, and the proof that what it answers is what every run does (part 2 of 3). No condition.
-/
import Derived.MapKept
import Derived.Lib.AppendZerosOnto
import Derived.Defers
import Derived.Test.YtikhphdimgcbkaaGreatDoorA1
set_option linter.unusedSectionVars false
set_option linter.unusedVariables false
set_option linter.unusedSimpArgs false
namespace Go.AE
set_option linter.unusedSectionVars false
variable [G : Glob]
section
variable {P : Program} {E : Env} {o : Oper} {a : Act} {ca : Go.Act} {φ : Phi} {h h' : Heap} {w : World} {v : AV}

/-- the zero value of a type whose size is known -/
theorem Env.Typed.zero' (hE : E.Typed P) {t : TypeId} {z : List AV} {j : TypeInfo} (hj : P.info? t = some j) (hz : zOf (E.ty t) = some z) :
    ∃ zv, j.zero = some zv ∧ zv.cells.size = j.size ∧ z.length = j.size ∧ z.all AV.flat = true ∧ ∀ ψ : Phi, VRels ψ z zv.cells.toList := by
  obtain ⟨i, d, zv, hi, hu, hiz, hsz, hf, hr⟩ := hE.zero hz
  rw [hj] at hi; cases hi
  obtain ⟨y, zv', hy, hyz, _, rfl⟩ := zOf_some hz
  have hl := hE.zs _ _ _ hy hyz
  obtain ⟨i', d', hi', _, _, hs, _⟩ := (tyOf_some (hE.ty _ _ hy)).ex
  rw [hj] at hi'; cases hi'
  exact ⟨zv, hiz, by omega, by omega, hf, hr⟩

theorem zero_row {z : List AV} {zv zero : Array Value} {sz n : Nat} (hr : ∀ ψ : Phi, VRels ψ z zv.toList) (hf : z.all AV.flat = true) (hsz : zv.size = sz) (hz : n * sz = 0 ∨ zero = zv) (ψ : Phi) :
    VRels ψ (repl n z) ((Array.range (n * sz)).map fun i => zero[i % zero.size]!).toList ∧ (repl n z).all AV.flat = true := by
  obtain ⟨h1, h2⟩ := repl_rel (hr ψ) hf n
  refine ⟨?_, h2⟩
  by_cases hz0 : n * sz = 0
  · rw [hz0]
    have hl := h1.length
    have : ((List.replicate n zv.toList).flatten).length = n * sz := by simp [List.length_flatten, hsz]
    have hn : repl n z = [] := List.eq_nil_of_length_eq_zero (by omega)
    rw [hn]
    simp [VRels.nil]
  · rcases hz with hz | rfl
    · exact absurd hz hz0
    · subst hsz
      rw [zeroCells_eq]; exact h1

theorem ok_buildSlice {t : TypeId} {len : Nat} {parts : Array (Nat × Operand)} (hE : E.Typed P) (hop : o.op = .buildSlice t len parts) (hw : WRel φ h w) (ha : ARel φ a ca)
    (hr : applyR h (fBuildSlice t len parts E a h) = some (v, h')) : OpOK P o ca φ h w v h' := by
  have parts_eq : (parts.map fun p => (p.1, ca.eval p.2)).toList = parts.toList.map fun p => (p.1, ca.eval p.2) := by simp
  unfold fBuildSlice gBS at hr
  split at hr
  · rename_i elem es eb _ _ _ _ hy
    unfold gBS2 at hr
    split at hr
    · rename_i z hz
      split at hr
      · rename_i ps hps hle
        have hle := Nat.le_of_ble_eq_true hle
        unfold gBS3 at hr
        split at hr
        · rename_i cs hfill
          obtain ⟨rfl, hs, rfl⟩ := new_apply hr
          obtain ⟨i, d, hi, hu, hd, _⟩ := hE.at hy
          obtain ⟨rfl, j, hj, rfl, _⟩ := tdOf_slice hd
          obtain ⟨zv, hjz, hzs, hzl, hzf, hzr⟩ := hE.zero' hj hz
          have hzero : ∃ zero : Array Value, (len * j.size = 0 ∧ zero = #[]) ∨ (len * j.size ≠ 0 ∧ zero = zv.cells) := by
            by_cases h0 : len * j.size = 0
            · exact ⟨#[], .inl ⟨h0, rfl⟩⟩
            · exact ⟨zv.cells, .inr ⟨h0, rfl⟩⟩
          obtain ⟨zero, hz2⟩ := hzero
          obtain ⟨r1, r2⟩ := zero_row (zero := zero) hzr hzf hzs (hz2.imp And.left And.right) φ
          obtain ⟨cs', g1, g2, g3, g4⟩ := fill_rel (place' := fun i => some (i * j.size, j.size)) (fun i p hp => by simpa [placeA] using hp) ps _ _ _ _ (ha.parts hps) r1 r2 hfill
          have g1' : Instr.fill (fun i => some (i * j.size, j.size)) ((Array.range (len * j.size)).map fun i => zero[i % zero.size]!) (parts.map fun p => (p.1, ca.eval p.2)).toList = some cs' := by rw [parts_eq]; exact g1
          have hsz : cs'.size = len * j.size := by
            have := g2.length
            have r := r1.length
            simp at this r
            omega
          refine OpOK.new hw (sz := cs'.size) (ob := .cells cs' elem) (v' := .slice (some ⟨w.heap.size, 0, none⟩) len len) (w' := { w with heap := w.heap.push (.cells cs' elem) }) hs ?_ rfl ?_
          · simp only [execOp, hop, Instr.buildSlice, Sem.run_bind, run_underlying' w hu, Result.andThen_ok, run_sizeOf' w hj]
            rw [if_neg (by omega)]
            rcases hz2 with ⟨h0, rfl⟩ | ⟨h0, rfl⟩
            · rw [if_pos h0]
              simp only [Sem.run_bind, Sem.run_pure, Result.andThen_ok]
              rw [g1']
              simp [newRow]
            · rw [if_neg h0]
              simp only [Sem.run_bind, Sem.run_pure, Result.andThen_ok, run_zeroValue' w hj hjz]
              rw [g1']
              simp [newRow]
          · intro ψ hm hn
            refine ⟨orel_cells (g2.mono hm) g3 rfl, ?_⟩
            simp only [VRel]
            exact ⟨_, 0, len, hn, rfl, Nat.le_refl _, by simp; omega, fun x hx => by cases hx; rfl, fun _ => rfl⟩
        · simp [applyR] at hr
      · simp [applyR] at hr
    · simp [applyR] at hr
  · simp [applyR] at hr

theorem ok_makeMap {t : TypeId} {r : Option Operand} (hE : E.Typed P) (hop : o.op = .makeMap t r) (hw : WRel φ h w) (ha : ARel φ a ca)
    (hr : applyR h (fMakeMap t r E a h) = some (v, h')) : OpOK P o ca φ h w v h' := by
  have fin : applyR h (.new (.map [] 0) (.map h.nx)) = some (v, h') → (Instr.makeMap t (r.map ca.eval)).run P w = (newObj (.map #[] 0) >>= fun b => pure (.map (some b))).run P w → OpOK P o ca φ h w v h' := by
    intro hr hrun
    obtain ⟨rfl, hs, rfl⟩ := new_apply hr
    refine OpOK.new hw (sz := 0) (ob := .map #[] 0) (v' := .map (some w.heap.size)) (w' := { w with heap := w.heap.push (.map #[] 0) }) hs ?_ rfl ?_
    · simp only [execOp, hop, Sem.run_bind, hrun]
      rfl
    · intro ψ hm hn
      exact ⟨⟨rfl, rfl, #[], rfl, rfl⟩, by simp only [VRel]; exact ⟨_, hn, rfl⟩⟩
  unfold fMakeMap at hr
  split at hr
  · exact fin hr rfl
  · rename_i x
    unfold gMakeMapT at hr
    split at hr
    · rename_i hy
      unfold gMakeMap at hr
      split at hr
      · rename_i n hx
        obtain ⟨k, hx⟩ := oNat_some hx
        have hv := ha.eval hx
        simp only [VRel] at hv
        obtain ⟨i, d, hi, hu, hd, _⟩ := hE.at hy
        have hd := tdOf_map hd; subst hd
        refine fin hr ?_
        simp [Instr.makeMap, run_underlying' w hu, hv, asInt, asIntOf]
      · simp [applyR] at hr
    · simp [applyR] at hr

theorem wrap_small {n : Nat} (h : n ≤ 1152921504606846976) : IntKind.i64.wrap (n : Int) = n := by
  rw [← wrapF_eq]
  show (match Nat.blt n (kindHi .i64) with | true => Int.ofNat n | false => _) = _
  have : Nat.blt n (kindHi .i64) = true := by rw [Nat.blt_eq]; simp only [kindHi]; omega
  rw [this]; rfl

/-! slices -/
theorem tooLarge_no {n b : Nat} (h : n * b ≤ 70368744177664) : ¬ ((n : Int) < 0 ∨ (b : Int) * n > 2 ^ 48) := by
  rintro (h1 | h1)
  · omega
  · have : (b : Int) * (n : Int) = ((n * b : Nat) : Int) := by rw [Int.natCast_mul, Int.mul_comm]
    rw [this] at h1; omega

theorem run_askRoom (n : Nat) : (askRoom n).run P w = .ok () w := by
  unfold askRoom
  split <;> rfl

theorem ok_makeSlice {t : TypeId} {l c : Operand} (hE : E.Typed P) (hop : o.op = .makeSlice t l c) (hw : WRel φ h w) (ha : ARel φ a ca)
    (hr : applyR h (fMakeSlice t l c E a h) = some (v, h')) : OpOK P o ca φ h w v h' := by
  unfold fMakeSlice gMS at hr
  split at hr
  · rename_i ln cn hl hc
    unfold gMS1 at hr
    split at hr
    · rename_i elem es eb _ _ _ _ hy
      unfold gMS2 at hr
      split at hr
      · rename_i z hz
        split at hr
        · rename_i hle
          simp only [Bool.and_eq_true, Nat.ble_eq] at hle
          obtain ⟨hle1, hle2, hle3⟩ := hle
          obtain ⟨rfl, hs, rfl⟩ := new_apply hr
          obtain ⟨k1, hl⟩ := oNat_some hl
          obtain ⟨k2, hc⟩ := oNat_some hc
          have hlv := ha.eval hl
          have hcv := ha.eval hc
          simp only [VRel] at hlv hcv
          obtain ⟨i, d, hi, hu, hd, _⟩ := hE.at hy
          obtain ⟨rfl, j, hj, rfl, rfl⟩ := tdOf_slice hd
          obtain ⟨zv, hjz, hzs, hzl, hzf, hzr⟩ := hE.zero' hj hz
          have hzero : ∃ zero : Array Value, (cn * j.size = 0 ∧ zero = #[]) ∨ (cn * j.size ≠ 0 ∧ zero = zv.cells) := by
            by_cases h0 : cn * j.size = 0
            · exact ⟨#[], .inl ⟨h0, rfl⟩⟩
            · exact ⟨zv.cells, .inr ⟨h0, rfl⟩⟩
          obtain ⟨zero, hz2⟩ := hzero
          obtain ⟨r1, r2⟩ := zero_row (zero := zero) hzr hzf hzs (hz2.imp And.left And.right) φ
          generalize hcs : (Array.range (cn * j.size)).map (fun i => zero[i % zero.size]!) = cs' at r1
          have hsz : cs'.size = cn * j.size := by subst hcs; simp
          have hwl : IntKind.i64.wrap (Int.ofNat ln) = Int.ofNat ln := wrap_small (by omega)
          have hwc : IntKind.i64.wrap (Int.ofNat cn) = Int.ofNat cn := wrap_small (by omega)
          refine OpOK.new hw (sz := cs'.size) (ob := .cells cs' elem) (v' := .slice (some ⟨w.heap.size, 0, none⟩) ln cn) (w' := { w with heap := w.heap.push (.cells cs' elem) }) hs ?_ rfl ?_
          · have hno := tooLarge_no hle3
            simp only [execOp, hop, Instr.makeSlice, Sem.run_bind, run_underlying' w hu, Result.andThen_ok, hlv, hcv, asInt, asIntOf, Sem.run_pure, run_typeInfo' w hj, hwl, hwc]
            rw [if_neg (by
              simp only [Bool.or_eq_true, decide_eq_true_eq, not_or] at hno ⊢
              refine ⟨⟨⟨by simp, ?_⟩, by simp⟩, by simp; omega⟩
              exact hno.2)]
            simp only [Sem.run_bind, Result.andThen_ok, run_askRoom, run_sizeOf' w hj, Int.ofNat_eq_natCast, Int.toNat_natCast]
            rcases hz2 with ⟨h0, rfl⟩ | ⟨h0, rfl⟩
            · rw [if_pos h0]
              simp only [Sem.run_bind, Sem.run_pure, Result.andThen_ok, hcs]
              simp [newRow]
            · rw [if_neg h0]
              simp only [Sem.run_bind, Sem.run_pure, Result.andThen_ok, run_zeroValue' w hj hjz, hcs]
              simp [newRow]
          · intro ψ hm hn
            refine ⟨orel_cells (r1.mono hm) r2 rfl, ?_⟩
            simp only [VRel]
            exact ⟨_, 0, cn, hn, rfl, hle1, by simp; omega, fun x hx => by cases hx; rfl, fun _ => rfl⟩
        · simp [applyR] at hr
      · simp [applyR] at hr
    · simp [applyR] at hr
  · simp [applyR] at hr

theorem bnd_some {d hi n : Nat} {x : Option Operand} (ha : ARel φ a ca) (h : bnd d hi (evalO a x) = some n) :
    (x = none ∧ n = d) ∨ (∃ o k, x = some o ∧ ca.eval o = .int k (n : Int) ∧ n ≤ hi) := by
  cases x with
  | none => simp only [evalO, bnd, Option.some.injEq] at h; exact .inl ⟨rfl, h.symm⟩
  | some o =>
    simp only [evalO, bnd] at h
    split at h
    · rename_i m hm
      split at h
      · rename_i hle
        cases h
        obtain ⟨k, hk⟩ := oNat_some hm
        have := ha.eval hk
        simp only [VRel] at this
        exact .inr ⟨o, k, rfl, this, Nat.le_of_ble_eq_true hle⟩
      · cases h
    · cases h

theorem run_sliceBound {k : IntKind} {n y : Nat} {c : BoundsCode} (h : n ≤ y) : (Instr.sliceBound (.int k (n : Int)) y c).run P w = .ok n w := by
  simp only [Instr.sliceBound, asIntOf, Sem.run_bind, Sem.run_pure, Result.andThen_ok]
  rw [if_pos ⟨by omega, by omega⟩]
  rfl

theorem run_bounds {iss : Bool} {len cap e l : Nat} {lo hi : Option Operand} (ha : ARel φ a ca) (hle : len ≤ cap) (he : bnd len cap (evalO a hi) = some e) (hl : bnd 0 e (evalO a lo) = some l) :
    (Instr.sliceBounds iss len cap (lo.map ca.eval) (hi.map ca.eval) none).run P w = .ok (l, e, cap) w ∧ l ≤ e ∧ e ≤ cap := by
  rcases bnd_some ha he with ⟨rfl, rfl⟩ | ⟨ho, kh, rfl, hh, hhle⟩ <;> rcases bnd_some ha hl with ⟨rfl, rfl⟩ | ⟨lo', kl, rfl, hlo, hlle⟩
  · exact ⟨by simp [Instr.sliceBounds], by omega, hle⟩
  · exact ⟨by simp [Instr.sliceBounds, hlo, run_sliceBound hlle], hlle, hle⟩
  · exact ⟨by simp [Instr.sliceBounds, hh, run_sliceBound hhle], by omega, hhle⟩
  · exact ⟨by simp [Instr.sliceBounds, hh, hlo, run_sliceBound hhle, run_sliceBound hlle], hlle, hhle⟩

theorem run_bounds3 {iss : Bool} {len cap e l m : Nat} {lo : Option Operand} {hi mx : Operand} {km : IntKind} (ha : ARel φ a ca) (hm : ca.eval mx = .int km (m : Int)) (hmc : m ≤ cap)
    (he : bnd len m (evalO a (some hi)) = some e) (hl : bnd 0 e (evalO a lo) = some l) :
    (Instr.sliceBounds iss len cap (lo.map ca.eval) (some (ca.eval hi)) (some (ca.eval mx))).run P w = .ok (l, e, m) w ∧ l ≤ e ∧ e ≤ m := by
  rcases bnd_some ha he with ⟨h0, _⟩ | ⟨ho, kh, h0, hh, hhle⟩
  · cases h0
  · cases h0
    rcases bnd_some ha hl with ⟨rfl, rfl⟩ | ⟨lo', kl, rfl, hlo, hlle⟩
    · exact ⟨by simp [Instr.sliceBounds, hm, hh, run_sliceBound hmc, run_sliceBound hhle], by omega, hhle⟩
    · exact ⟨by simp [Instr.sliceBounds, hm, hh, hlo, run_sliceBound hmc, run_sliceBound hhle, run_sliceBound hlle], hlle, hhle⟩
end
end Go.AE

namespace Go.AE
set_option linter.unusedSectionVars false
variable [G : Glob]
section
variable {P : Program} {E : Env} {o : Oper} {a : Act} {ca : Go.Act} {φ : Phi} {h h' : Heap} {w : World} {v : AV}

theorem evalO_none {x : Option Operand} (h : evalO a x = none) : x = none := by
  cases x with
  | none => rfl
  | some x => simp [evalO] at h
theorem evalO_some {x : Option Operand} {y : Option AV} (h : evalO a x = some y) : ∃ z, x = some z ∧ a.eval z = y := by
  cases x with
  | none => simp [evalO] at h
  | some x => simp [evalO] at h; exact ⟨x, rfl, h⟩

theorem bndLo_some {lo : Option (Option AV)} {e : Option Nat} {l : Nat} (h : bndLo lo e = some l) : ∃ e', e = some e' ∧ bnd 0 e' lo = some l := by
  cases e with
  | none => simp [bndLo] at h
  | some e => exact ⟨e, rfl, h⟩

theorem val_apply {x : AV} (hr : applyR h (.val x) = some (v, h')) : v = x ∧ h' = h := by
  simp only [applyR, Option.some.injEq, Prod.mk.injEq] at hr
  exact ⟨hr.1.symm, hr.2.symm⟩

theorem str_extract {b : ByteArray} {s : List Nat} (hb : b.data.toList.map (·.toNat) = s) (l e : Nat) : (b.extract l e).data.toList.map (·.toNat) = (s.drop l).take (e - l) := by
  subst hb
  rw [ByteArray.data_extract, Array.toList_extract]
  simp [List.map_take, List.map_drop]

theorem ok_slice {t : TypeId} {x : Operand} {lo hi mx : Option Operand} (hE : E.Typed P) (hop : o.op = .slice t x lo hi mx) (hw : WRel φ h w) (ha : ARel φ a ca)
    (hr : applyR h (fSlice t x lo hi mx E a h) = some (v, h')) : OpOK P o ca φ h w v h' := by
  unfold fSlice gSlice at hr
  split at hr
  · -- text
    rename_i s hx
    split at hr
    · rename_i hmx
      have hmx := evalO_none hmx; subst hmx
      unfold gSliceStr at hr
      split at hr
      · rename_i hy
        unfold sliceStr at hr
        split at hr
        · rename_i e l he hl
          obtain ⟨e', he', hl⟩ := bndLo_some hl
          rw [he] at he'; cases he'
          unfold gStr at hr
          split at hr
          · rename_i r hr'
            obtain ⟨rfl, rfl⟩ := val_apply hr
            rw [takeN_eq, dropN_eq] at hr'
            split at hr'
            · cases hr'
              have hv := ha.eval hx
              simp only [VRel] at hv
              obtain ⟨b, hv, hb⟩ := hv
              obtain ⟨i, d, hi', hu, hd, _⟩ := hE.at hy
              have hd := tdOf_string hd; subst hd
              have hlen : lenN s = b.size := by rw [lenN_eq, ← hb, List.length_map, Array.length_toList]; rfl
              rw [hlen] at he
              obtain ⟨hrun, h1, h2⟩ := run_bounds (P := P) (w := w) (iss := false) ha (Nat.le_refl _) he hl
              refine OpOK.val hw (v' := .string (b.extract l e)) ?_ (by simp only [VRel]; exact ⟨_, rfl, str_extract hb l e⟩)
              simp only [execOp, hop, Instr.sliceAt, Instr.slice, Sem.run_bind, run_underlying' w hu, Result.andThen_ok, hv]
              simp [hrun]
            · cases hr'
          · simp [applyR] at hr
        · simp [applyR] at hr
      · simp [applyR] at hr
    · simp [applyR] at hr
  · -- nil
    rename_i hx
    have hv := ha.eval hx
    simp only [VRel] at hv
    unfold gSliceNil at hr
    split at hr
    · rename_i elem es eb _ _ _ _ hy
      obtain ⟨i, d, hi', hu, hd, _⟩ := hE.at hy
      obtain ⟨rfl, j, hj, rfl, rfl⟩ := tdOf_slice hd
      split at hr
      · simp [applyR] at hr
      · rename_i hnn
        unfold sliceNil' at hr
        split at hr
        · rename_i m e l hm he hl
          obtain ⟨rfl, rfl⟩ := val_apply hr
          refine OpOK.val hw (v' := .slice none 0 0) ?_ (by simp only [VRel])
          have hrun : (Instr.sliceBounds true 0 0 (lo.map ca.eval) (hi.map ca.eval) (mx.map ca.eval)).run P w = .ok (0, 0, 0) w := by
            have e0 : e = 0 := by rcases bnd_some ha he with ⟨_, h⟩ | ⟨_, _, _, _, h⟩ <;> omega
            have l0 : l = 0 := by rcases bnd_some ha hl with ⟨_, h⟩ | ⟨_, _, _, _, h⟩ <;> omega
            subst e0; subst l0
            rcases bnd_some ha hm with ⟨rfl, rfl⟩ | ⟨mo, km, rfl, hmo, hm0⟩
            · exact (run_bounds ha (Nat.le_refl _) he hl).1
            · have : m = 0 := by omega
              subst this
              cases hi with
              | none => exact (hnn _ rfl rfl).elim
              | some hi => exact (run_bounds3 ha hmo (Nat.le_refl _) he hl).1
          simp only [execOp, hop, Instr.sliceAt, Instr.slice, Sem.run_bind, run_underlying' w hu, Result.andThen_ok, hv, hrun, run_sizeOf' w hj]
          rfl
        · simp [applyR] at hr
    · simp [applyR] at hr
  · -- a slice
    rename_i b off len cap es hx
    have hv := ha.eval hx
    simp only [VRel] at hv
    obtain ⟨im, o', c', hb, hv, hlc, hsz, hcap, hoff⟩ := hv
    unfold gSlice1 at hr
    split at hr
    · rename_i elem es' eb _ _ _ _ hy
      split at hr
      · rename_i hes
        have hes := Nat.eq_of_beq_eq_true hes; subst hes
        obtain ⟨i, d, hi', hu, hd, _⟩ := hE.at hy
        obtain ⟨rfl, j, hj, rfl, rfl⟩ := tdOf_slice hd
        -- what the model does
        have key : ∀ (l e m : Nat) (v' : AV), (Instr.sliceBounds true len c' (lo.map ca.eval) (hi.map ca.eval) (mx.map ca.eval)).run P w = .ok (l, e, m) w →
            VRel φ v' (.slice (some (if m = l then ⟨im.cb, o', none⟩ else ⟨im.cb, o' + l * j.size, none⟩)) (e - l) (m - l)) → v = v' → h' = h → OpOK P o ca φ h w v h' := by
          intro l e m v' hrun hrel hvv hh
          subst hvv; subst hh
          refine OpOK.val hw (v' := _) ?_ hrel
          simp only [execOp, hop, Instr.sliceAt, Instr.slice, Sem.run_bind, run_underlying' w hu, Result.andThen_ok, hv, hrun, run_sizeOf' w hj]
          by_cases hml : m = l
          · simp [hml]
          · simp [hml, addr_add]
        -- known capacity
        have kcap : ∀ (c e l : Nat), (Instr.sliceBounds true len c' (lo.map ca.eval) (hi.map ca.eval) (mx.map ca.eval)).run P w = .ok (l, e, c) w → l ≤ e → e ≤ c → c ≤ c' → o' = im.sh + off →
            applyR h (sliceCap b off c j.size (some e) (some l)) = some (v, h') → OpOK P o ca φ h w v h' := by
          intro c e l hrun h1 h2 h3 ho hr
          unfold sliceCap at hr
          obtain ⟨hv1, hh⟩ := val_apply hr
          refine key l e c _ hrun ?_ hv1 hh
          simp only [VRel]
          have hmul : l * j.size + (c - l) * j.size = c * j.size := by rw [← Nat.add_mul]; congr 1; omega
          have hmul2 : c * j.size ≤ c' * j.size := Nat.mul_le_mul_right _ h3
          by_cases hml : c = l
          · subst hml
            refine ⟨im, o', 0, hb, by simp, by omega, by simp; omega, fun x hx => by cases hx; simp, fun _ => ?_⟩
            simp [offAt, ho]
          · refine ⟨im, o' + l * j.size, c - l, hb, by simp [hml], by omega, by omega, fun x hx => by cases hx; rfl, fun _ => ?_⟩
            have : Nat.beq c l = false := by cases hq : Nat.beq c l with | false => rfl | true => exact absurd (Nat.eq_of_beq_eq_true hq) hml
            simp [offAt, this, ho, Nat.add_assoc]
        unfold gSlice2 at hr
        split at hr
        · -- no max, known capacity
          rename_i c hmx
          have hmx := evalO_none hmx; subst hmx
          have := hcap c rfl; subst this
          cases he : bnd len c' (evalO a hi) with
          | none => rw [he] at hr; simp [sliceCap, applyR] at hr
          | some e =>
            rw [he] at hr
            cases hl : bndLo (evalO a lo) (some e) with
            | none => rw [hl] at hr; simp [sliceCap, applyR] at hr
            | some l =>
              rw [hl] at hr
              obtain ⟨hrun, h1, h2⟩ := run_bounds (P := P) (w := w) (iss := true) ha hlc he hl
              exact kcap c' e l hrun h1 h2 (Nat.le_refl _) (hoff (.inr (by simp))) hr
        · -- no max, unknown capacity
          rename_i hmx
          have hmx := evalO_none hmx; subst hmx
          cases he : bnd len len (evalO a hi) with
          | none => rw [he] at hr; simp [sliceOpen, applyR] at hr
          | some e =>
            rw [he] at hr
            cases hl : bndLo (evalO a lo) (some e) with
            | none => rw [hl] at hr; simp [sliceOpen, applyR] at hr
            | some l =>
              rw [hl] at hr
              have he' : bnd len c' (evalO a hi) = some e ∧ e ≤ len := by
                rcases bnd_some ha he with ⟨rfl, rfl⟩ | ⟨ho, kh, rfl, hh, hhle⟩
                · exact ⟨rfl, Nat.le_refl _⟩
                · refine ⟨?_, hhle⟩
                  simp only [evalO, bnd] at he ⊢
                  split at he
                  · rename_i n hn
                    split at he
                    · cases he
                      have : Nat.ble e c' = true := by rw [Nat.ble_eq]; omega
                      simp [this]
                    · cases he
                  · cases he
              obtain ⟨hrun, h1, h2⟩ := run_bounds (P := P) (w := w) (iss := true) ha hlc he'.1 hl
              obtain ⟨hv1, hh⟩ := val_apply hr
              refine key l e c' _ hrun ?_ hv1 hh
              have hmul : l * j.size + (c' - l) * j.size = c' * j.size := by rw [← Nat.add_mul]; congr 1; omega
              simp only [VRel]
              have he2 := he'.2
              by_cases hml : c' = l
              · subst hml
                refine ⟨im, o', 0, hb, by simp, by omega, by simp; omega, fun x hx => (by cases hx), fun hn => ?_⟩
                rcases hn with hn | hn
                · omega
                · exact absurd rfl hn
              · refine ⟨im, o' + l * j.size, c' - l, hb, by simp [hml], by omega, by omega, fun x hx => (by cases hx), fun hn => ?_⟩
                rcases hn with hn | hn
                · have := hoff (.inl (by omega)); omega
                · exact absurd rfl hn
        · -- with max
          rename_i mxv _ hmx
          obtain ⟨mo, rfl, rfl⟩ := evalO_some hmx
          unfold sliceMax0 at hr
          split at hr
          · rename_i m' hm'
            split at hr
            · rename_i hiv _ hhi hpos
              obtain ⟨ho, rfl, rfl⟩ := evalO_some hhi
              have hpos : 0 < len := by simpa [Nat.blt_eq] using hpos
              unfold sliceMax at hr
              split at hr
              · rename_i m hm
                obtain ⟨km, hkm⟩ := oNat_some hm
                cases hkm
                have hmo := ha.eval hm'
                simp only [VRel] at hmo
                split at hr
                · rename_i hml
                  have hml := Nat.le_of_ble_eq_true hml
                  cases he : bnd len m (evalO a (some ho)) with
                  | none => rw [he] at hr; simp [sliceCap, applyR] at hr
                  | some e =>
                    rw [he] at hr
                    cases hl : bndLo (evalO a lo) (some e) with
                    | none => rw [hl] at hr; simp [sliceCap, applyR] at hr
                    | some l =>
                      rw [hl] at hr
                      obtain ⟨hrun, h1, h2⟩ := run_bounds3 (P := P) (w := w) (iss := true) ha hmo (Nat.le_trans hml hlc) he hl
                      exact kcap m e l hrun h1 h2 (by omega) (hoff (.inl (by omega))) hr
                · simp [applyR] at hr
              · simp [applyR] at hr
            · simp [applyR] at hr
          · simp [applyR] at hr
      · simp [applyR] at hr
    · simp [applyR] at hr
  · -- an array behind a pointer
    rename_i b off hx
    have hv := ha.eval hx
    simp only [VRel] at hv
    obtain ⟨im, hb, hv⟩ := hv
    split at hr
    · rename_i hmx
      have hmx := evalO_none hmx; subst hmx
      unfold gSliceArr at hr
      split at hr
      · rename_i n el es ag _ _ _ _ hy
        obtain ⟨i, d, hi', hu, hd, _⟩ := hE.at hy
        obtain ⟨rfl, j, de, hj, _, rfl, _⟩ := tdOf_arr hd
        unfold gSliceArr2 at hr
        split at hr
        · rename_i cs hg
          split at hr
          · rename_i hle
            have hle := Nat.le_of_ble_eq_true hle
            rw [lenN_eq] at hle
            obtain ⟨ob, _, c0, e0, _, hc1, hc2, _, _⟩ := hw.live b _ im hg hb
            cases he : bnd n n (evalO a hi) with
            | none => rw [he] at hr; simp [sliceCap, applyR] at hr
            | some e =>
              rw [he] at hr
              cases hl : bndLo (evalO a lo) (some e) with
              | none => rw [hl] at hr; simp [sliceCap, applyR] at hr
              | some l =>
                rw [hl] at hr
                obtain ⟨hrun, h1, h2⟩ := run_bounds (P := P) (w := w) (iss := false) ha (Nat.le_refl _) he hl
                obtain ⟨hv1, hh⟩ := val_apply hr
                subst hh
                have hmul : l * j.size + (n - l) * j.size = n * j.size := by rw [← Nat.add_mul]; congr 1; omega
                subst hv1
                refine OpOK.val hw (v' := .slice (some (if n = l then ⟨im.cb, im.sh + off, none⟩ else ⟨im.cb, im.sh + off + l * j.size, none⟩)) (e - l) (n - l)) ?_ ?_
                · simp only [execOp, hop, Instr.sliceAt, Sem.run_bind, run_underlying' w hu, Result.andThen_ok, hv, Instr.sureAddr, Sem.run_pure, Option.map_none, hrun, run_sizeOf' w hj]
                  by_cases hml : n = l
                  · simp [hml]
                  · simp [hml, addr_add]
                · simp only [VRel]
                  by_cases hml : n = l
                  · subst hml
                    refine ⟨im, im.sh + off, 0, hb, by simp, by omega, by simp; omega, fun x hx => by cases hx; simp, fun _ => ?_⟩
                    simp [offAt]
                  · refine ⟨im, im.sh + off + l * j.size, n - l, hb, by simp [hml], by omega, by omega, fun x hx => by cases hx; rfl, fun _ => ?_⟩
                    have : Nat.beq n l = false := by cases hq : Nat.beq n l with | false => rfl | true => exact absurd (Nat.eq_of_beq_eq_true hq) hml
                    simp [offAt, this, Nat.add_assoc]
          · simp [applyR] at hr
        · simp [applyR] at hr
      · simp [applyR] at hr
    · simp [applyR] at hr
  · simp [applyR] at hr
end
end Go.AE

namespace Go.AE
set_option linter.unusedSectionVars false
variable [G : Glob]
section
variable {P : Program} {E : Env} {o : Oper} {a : Act} {ca : Go.Act} {φ : Phi} {h h' : Heap} {w : World} {v : AV}

/-! maps -/
def KeyD (d : TypeDesc) : Prop := d = .bool ∨ (∃ k, d = .int k) ∨ d = .string

theorem keyD {d : TypeDesc} (h : isKeyT (tdOf P d) = true) : KeyD d := by
  unfold isKeyT at h
  split at h
  · rename_i e; exact .inl (tdOf_bool e)
  · rename_i k e; exact .inr (.inl ⟨k, tdOf_int e⟩)
  · rename_i e; exact .inr (.inr (tdOf_string e))
  · cases h

theorem run_checkKey' {kt : TypeId} {d : TypeDesc} (hd : P.underlying kt = some d) (hk : KeyD d) (e : Bool) (k : Value) : (Instr.checkKey e 10000 kt k).run P w = .ok () w := by
  show (Instr.checkKey e (9999 + 1) kt k).run P w = _
  unfold Instr.checkKey
  simp only [Sem.run_bind, run_underlying' w hd, Result.andThen_ok]
  rcases hk with rfl | ⟨k, rfl⟩ | rfl <;> rfl

theorem eqStr_rel {a b : List Nat} {p q : ByteArray} (hp : p.data.toList.map (·.toNat) = a) (hq : q.data.toList.map (·.toNat) = b) : eqStr a b = (p == q) := by
  subst hp hq
  rw [eqStr_eq, Bool.eq_iff_iff, decide_eq_true_iff, MapKept.bytes_beq]
  refine ⟨fun h => ?_, fun h => by rw [h]⟩
  have := mapN_inj h
  cases p; cases q
  simp only [ByteArray.mk.injEq]
  exact Array.toList_inj.1 this

theorem eqKey_ok {d : TypeDesc} {k x : AV} {k' x' : Value} {b : Bool} (hk : VRel φ k k') (hx : VRel φ x x') (h : eqKey (tdOf P d) k x = some b) :
    Instr.sameNow d k' x' = some b ∧ (b = true → Instr.sameBits 10000 x' k' = true) := by
  unfold eqKey at h
  split at h
  · rename_i a c e
    have := tdOf_bool e; subst this
    simp only [VRel] at hk hx; subst hk; subst hx
    cases a <;> cases c <;> simp at h <;> subst h <;> simp [Instr.sameNow, Instr.sameBits]
  · rename_i kd k1 m k2 n e
    have := tdOf_int e; subst this
    simp only [VRel] at hk hx; subst hk; subst hx
    split at h
    · rename_i hs
      have hs := sameKind_eq hs; subst hs
      simp at h; subst h
      rw [eqF_eq]
      refine ⟨?_, fun hb => ?_⟩
      · simp [Instr.sameNow]; rfl
      · simp at hb; subst hb; simp [Instr.sameBits]
    · cases h
  · rename_i s1 s2 e
    have := tdOf_string e; subst this
    simp only [VRel] at hk hx
    obtain ⟨p, rfl, hp⟩ := hk
    obtain ⟨q, rfl, hq⟩ := hx
    simp at h; subst h
    rw [eqStr_rel hp hq]
    refine ⟨by simp [Instr.sameNow], fun hb => ?_⟩
    have : p = q := (MapKept.bytes_beq p q).1 hb
    subst this
    exact hb
  · cases h

/-- the entry that is looked for -/
theorem findEntry_ok {d : TypeDesc} {k : AV} {k' : Value} (hk : VRel φ k k') : ∀ (es : List (AV × AV × Nat)) (ms : List MapEntry) (n : Nat) (r : Option AV), ERels φ es ms → findEntry (tdOf P d) k es = some r →
    (r = none ∧ Instr.findNow d k' ms n = some none) ∨ ∃ (i : Nat) (k0 x : AV) (b : Nat) (m : MapEntry), r = some x ∧ es[i]? = some (k0, x, b) ∧ ms[i]? = some m ∧ VRel φ x m.val ∧ m.born = b ∧
      Instr.findNow d k' ms n = some (some (n + i, m.val)) ∧ Instr.sameBits 10000 m.key k' = true ∧ ∀ y, setEntry (tdOf P d) k y es = es.set i (k, y, b)
  | [], ms, n, r, he, h => by
    simp only [ERels] at he; subst he
    simp only [findEntry, Option.some.injEq] at h; subst h
    exact .inl ⟨rfl, rfl⟩
  | e :: es, ms, n, r, he, h => by
    simp only [ERels] at he
    obtain ⟨m, ms, rfl, ⟨h1, h2, h3⟩, he⟩ := he
    simp only [findEntry] at h
    split at h
    · rename_i hq
      cases h
      obtain ⟨g1, g2⟩ := eqKey_ok hk h1 hq
      refine .inr ⟨0, e.1, e.2.1, e.2.2, m, rfl, rfl, rfl, h2, h3, by simp [Instr.findNow, g1], g2 rfl, fun y => by simp [setEntry, hq]⟩
    · rename_i hq
      obtain ⟨g1, _⟩ := eqKey_ok hk h1 hq
      rcases findEntry_ok hk es ms (n + 1) r he h with ⟨rfl, h4⟩ | ⟨i, k0, x, b, m', rfl, i1, i2, i3, i4, i5, i6, i7⟩
      · exact .inl ⟨rfl, by simp [Instr.findNow, g1, h4]⟩
      · refine .inr ⟨i + 1, k0, x, b, m', rfl, by simpa using i1, by simpa using i2, i3, i4, ?_, i6, fun y => ?_⟩
        · simp [Instr.findNow, g1, i5]; omega
        · simp [setEntry, hq, i7]
    · cases h
end
end Go.AE

namespace Go.AE
set_option linter.unusedSectionVars false
variable [G : Glob]
section
variable {P : Program} {E : Env} {o : Oper} {a : Act} {ca : Go.Act} {φ : Phi} {h h' : Heap} {w : World} {v : AV}

theorem run_getObj_map' {r : Nat} {es : Array MapEntry} {c : Nat} (hb : w.heap[r]? = some (.map es c)) : (getObj r).run P w = .ok (.map es c) w := by
  simp [getObj, Sem.run, hb]
theorem run_setObj_map' {r : Nat} {es : Array MapEntry} {c : Nat} (ob : Obj) (hb : w.heap[r]? = some (.map es c)) : (setObj r ob).run P w = .ok () { w with heap := w.heap.setIfInBounds r ob } := by
  simp [setObj, Sem.run, hb]
theorem run_getObj_iter {r : Nat} {m : Option Nat} {s : Nat} {l : Array Nat} {c : Nat} (hb : w.heap[r]? = some (.mapIter m s l c)) : (getObj r).run P w = .ok (.mapIter m s l c) w := by
  simp [getObj, Sem.run, hb]
theorem run_setObj_iter {r : Nat} {m : Option Nat} {s : Nat} {l : Array Nat} {c : Nat} (ob : Obj) (hb : w.heap[r]? = some (.mapIter m s l c)) : (setObj r ob).run P w = .ok () { w with heap := w.heap.setIfInBounds r ob } := by
  simp [setObj, Sem.run, hb]

theorem pairOk_apply {ok b : Bool} {x : AV} {x' : Value} (hx : VRel φ x x') (hr : applyR h (pairOk ok b x) = some (v, h')) :
    h' = h ∧ VRel φ v (if ok then .tuple #[x', .bool b] else x') := by
  unfold pairOk at hr
  split at hr
  · obtain ⟨rfl, rfl⟩ := val_apply hr
    refine ⟨rfl, ?_⟩
    simp only [if_true, VRel]
    exact ⟨_, rfl, VRels.two hx (by simp only [VRel])⟩
  · obtain ⟨rfl, rfl⟩ := val_apply hr
    exact ⟨rfl, hx⟩

theorem mapAt (hw : WRel φ h w) {r : Nat} {es : List (AV × AV × Nat)} {c : Nat} {im : Im} (hb : φ r = some im) (hg : h.get r = some (.map es c)) :
    ∃ es', w.heap[im.cb]? = some (.map es' c) ∧ ERels φ es es'.toList ∧ im.sz = 0 ∧ im.sh = 0 := by
  obtain ⟨ob, h1, h2, h3, es', rfl, h4⟩ := hw.live r _ im hg hb
  exact ⟨es', h1, h4, h2, h3⟩

theorem entries_some (hw : WRel φ h w) {x : Option AV} {es : List (AV × AV × Nat)} (h1 : entriesOf h x = some es) :
    ∃ y, x = some y ∧ ∀ y', VRel φ y y' → ∃ es' : Array MapEntry, ERels φ es es'.toList ∧
      ((y' = .map none ∧ es' = #[]) ∨ ∃ r c, y' = .map (some r) ∧ w.heap[r]? = some (.map es' c)) := by
  unfold entriesOf at h1
  split at h1
  · cases h1
    refine ⟨_, rfl, fun y' hy => ?_⟩
    simp only [VRel] at hy; subst hy
    exact ⟨#[], rfl, .inl ⟨rfl, rfl⟩⟩
  · rename_i r
    refine ⟨_, rfl, fun y' hy => ?_⟩
    simp only [VRel] at hy
    obtain ⟨im, hb, rfl⟩ := hy
    unfold esOf at h1
    split at h1
    · rename_i es0 c hg
      cases h1
      obtain ⟨es', g1, g2, _, _⟩ := mapAt hw hb hg
      exact ⟨es', g2, .inr ⟨_, _, rfl, g1⟩⟩
    · cases h1
  · cases h1

theorem ok_lookup {t : TypeId} {x i : Operand} {ok : Bool} (hE : E.Typed P) (hop : o.op = .lookup t x i ok) (hw : WRel φ h w) (ha : ARel φ a ca)
    (hr : applyR h (fLookup t x i ok E a h) = some (v, h')) : OpOK P o ca φ h w v h' := by
  unfold fLookup gLk at hr
  split at hr
  · rename_i key elem _ _ _ _ hy
    obtain ⟨_, d, _, hu, hd, _⟩ := hE.at hy
    have := tdOf_map hd; subst this
    unfold gLk2 at hr
    split at hr
    · rename_i es k hes hk
      split at hr
      · rename_i hkt
        have hn : tdOf' (E.ty key) ≠ .other := by intro e; rw [e] at hkt; simp [isKeyT] at hkt
        obtain ⟨de, hkd, hkdt⟩ := hE.td rfl hn
        rw [← hkdt] at hr hkt
        obtain ⟨y, hx, hes'⟩ := entries_some hw hes
        obtain ⟨es', g1, g2⟩ := hes' _ (ha.eval hx)
        have hkr := ha.eval hk
        have mainS : ∀ (j : Nat) (x' : Value), Instr.findNow de (ca.eval i) es'.toList 0 = some (some (j, x')) → (execOp ca.eval o).run P w = .ok (.value (if ok then .tuple #[x', .bool true] else x')) w := by
          intro j x' hf
          have hfk : (Instr.findKey key (ca.eval i) es'.toList).run P w = .ok (some (j, x')) w := by
            simp only [Instr.findKey, Sem.run_bind, run_underlying' w hkd, Result.andThen_ok, hf, Sem.run_pure]
          rcases g2 with ⟨hm, rfl⟩ | ⟨rr, c, hm, hh⟩
          · simp only [execOp, hop, Instr.lookup, Sem.run_bind, run_underlying' w hu, Result.andThen_ok, hm, Sem.run_pure, run_checkKey' hkd (keyD hkt), hfk]
          · simp only [execOp, hop, Instr.lookup, Sem.run_bind, run_underlying' w hu, Result.andThen_ok, hm, Sem.run_pure, run_getObj_map' hh, run_checkKey' hkd (keyD hkt), hfk]
        have mainN : ∀ (i2 : TypeInfo) (cz : Value), P.info? elem = some i2 → i2.zero = some cz → Instr.findNow de (ca.eval i) es'.toList 0 = some none →
            (execOp ca.eval o).run P w = .ok (.value (if ok then .tuple #[cz, .bool false] else cz)) w := by
          intro i2 cz hi2 hz2 hf
          have hfk : (Instr.findKey key (ca.eval i) es'.toList).run P w = .ok none w := by
            simp only [Instr.findKey, Sem.run_bind, run_underlying' w hkd, Result.andThen_ok, hf, Sem.run_pure]
          rcases g2 with ⟨hm, rfl⟩ | ⟨rr, c, hm, hh⟩
          · simp only [execOp, hop, Instr.lookup, Sem.run_bind, run_underlying' w hu, Result.andThen_ok, hm, Sem.run_pure, run_checkKey' hkd (keyD hkt), hfk, run_zeroValue' w hi2 hz2]
          · simp only [execOp, hop, Instr.lookup, Sem.run_bind, run_underlying' w hu, Result.andThen_ok, hm, Sem.run_pure, run_getObj_map' hh, run_checkKey' hkd (keyD hkt), hfk, run_zeroValue' w hi2 hz2]
        unfold gLk3 at hr
        split at hr
        · rename_i x0 hf
          rcases findEntry_ok hkr _ _ 0 _ g1 hf with ⟨h0, _⟩ | ⟨j, k0, x1, b, m, he, _, _, hv1, _, hf', _⟩
          · cases h0
          · cases he
            obtain ⟨rfl, hv⟩ := pairOk_apply hv1 hr
            exact OpOK.val hw (mainS _ _ hf') hv
        · rename_i hf
          rcases findEntry_ok hkr _ _ 0 _ g1 hf with ⟨_, hf'⟩ | ⟨j, k0, x1, b, m, he, _⟩
          · unfold gLkZ at hr
            split at hr
            · rename_i z hz
              obtain ⟨i2, d2, hi2, _, _, _, _, _, hz2⟩ := (tyOf_some (hE.ty _ _ hz)).ex
              cases hiz : i2.zero with
              | none => simp [hiz] at hz2
              | some cz =>
                simp [hiz] at hz2
                obtain ⟨rfl, hv⟩ := pairOk_apply (ofConst_rel (φ := φ) hz2.symm) hr
                exact OpOK.val hw (mainN _ _ hi2 hiz hf') hv
            · simp [applyR] at hr
          · cases he
        · simp [applyR] at hr
      · simp [applyR] at hr
    · simp [applyR] at hr
  · simp [applyR] at hr

theorem ERels.append_one {es : List (AV × AV × Nat)} {ms : List MapEntry} {e : AV × AV × Nat} {m : MapEntry} (h : ERels φ es ms) (he : ERel φ e m) : ERels φ (es ++ [e]) (ms ++ [m]) := by
  induction es generalizing ms with
  | nil => simp only [ERels] at h; subst h; exact ⟨m, [], rfl, he, rfl⟩
  | cons x xs ih =>
    obtain ⟨y, ys, rfl, h1, h2⟩ := h
    exact ⟨y, _, rfl, h1, ih h2⟩
theorem ERels.set {es : List (AV × AV × Nat)} {ms : List MapEntry} {e : AV × AV × Nat} {m : MapEntry} (h : ERels φ es ms) (he : ERel φ e m) (i : Nat) : ERels φ (es.set i e) (ms.set i m) := by
  induction es generalizing ms i with
  | nil => simp only [ERels] at h; subst h; exact rfl
  | cons x xs ih =>
    obtain ⟨y, ys, rfl, h1, h2⟩ := h
    cases i with
    | zero => exact ⟨m, ys, rfl, he, h2⟩
    | succ i => exact ⟨y, _, rfl, h1, ih h2 i⟩
theorem ERels.length : ∀ {es : List (AV × AV × Nat)} {ms : List MapEntry}, ERels φ es ms → ms.length = es.length
  | [], ms, h => by simp only [ERels] at h; subst h; rfl
  | x :: xs, ms, h => by
    obtain ⟨y, ys, rfl, _, h2⟩ := h
    simp [h2.length]

theorem ok_mapUpdate {t : TypeId} {m k x : Operand} (hE : E.Typed P) (hop : o.op = .mapUpdate t m k x ∨ o.op = .insert t m k x) (hw : WRel φ h w) (ha : ARel φ a ca)
    (hr : applyR h (fMapUpdate t m k x E a h) = some (v, h')) : OpOK P o ca φ h w v h' := by
  unfold fMapUpdate gMUt at hr
  split at hr
  · rename_i key elem _ _ _ _ hy
    obtain ⟨_, d, _, hu, hd, _⟩ := hE.at hy
    have := tdOf_map hd; subst this
    unfold gMU at hr
    split at hr
    · rename_i r kv xv hm hk hx
      have hmr := ha.eval hm
      simp only [VRel] at hmr
      obtain ⟨im, hb, hmr⟩ := hmr
      unfold gMU2 at hr
      split at hr
      · rename_i es c hg
        split at hr
        · rename_i hkt
          have hn : tdOf' (E.ty key) ≠ .other := by intro e; rw [e] at hkt; simp [isKeyT] at hkt
          obtain ⟨de, hkd, hkdt⟩ := hE.td rfl hn
          rw [← hkdt] at hr hkt
          obtain ⟨es', g1, g2, gz, gs⟩ := mapAt hw hb hg
          have hkr := ha.eval hk
          have hxr := ha.eval hx
          have fin : ∀ (es2 : Array MapEntry) (c2 : Nat) (ao : List (AV × AV × Nat)), (Instr.mapUpdate t (ca.eval m) (ca.eval k) (ca.eval x)).run P w = .ok () { w with heap := w.heap.setIfInBounds im.cb (.map es2 c2) } →
              ERels φ ao es2.toList → applyR h (.set r (.map ao c2) unit) = some (v, h') → OpOK P o ca φ h w v h' := by
            intro es2 c2 ao hrun hes hr
            obtain ⟨rfl, rfl⟩ := set_apply hr
            refine OpOK.set hw hb (by rw [hg]; simp) (n := .skip) (v' := undef) (ob := .map es2 c2) (w' := { w with heap := w.heap.setIfInBounds im.cb (.map es2 c2) }) ?_ (.inr ⟨rfl, rfl⟩) g1 ?_ rfl ⟨gz, gs, es2, rfl, hes⟩ (unit_rel φ)
            · rcases hop with hop | hop <;> simp only [execOp, hop, Sem.run_bind, hrun] <;> rfl
            · intro i hs
              rcases hs with hs | ⟨c0, e0, h1, _⟩
              · exact .inl hs
              · cases h1
          have start : ∀ r, Instr.findNow de (ca.eval k) es'.toList 0 = some r → (Instr.mapUpdate t (ca.eval m) (ca.eval k) (ca.eval x)).run P w = 
              ((match r with
                | some (i, _) => do
                  let key ← Instr.keyThatStays (((es'[i]?).map (·.key)).getD (ca.eval k)) (ca.eval k)
                  setObj im.cb (.map (es'.modify i fun e => { e with key, val := ca.eval x }) c)
                | none => setObj im.cb (.map (es'.push { key := ca.eval k, val := ca.eval x, born := c }) (c + 1)) : Sem Unit)).run P w := by
            intro r hf
            have hfk : (Instr.findKey key (ca.eval k) es'.toList).run P w = .ok r w := by
              simp only [Instr.findKey, Sem.run_bind, run_underlying' w hkd, Result.andThen_ok, hf, Sem.run_pure]
            cases r <;> simp only [Instr.mapUpdate, Sem.run_bind, run_underlying' w hu, Result.andThen_ok, hmr, run_getObj_map' g1, run_checkKey' hkd (keyD hkt), hfk]
          unfold gMU3 at hr
          split at hr
          · rename_i x0 hf
            rcases findEntry_ok hkr _ _ 0 _ g2 hf with ⟨h0, _⟩ | ⟨j, k0, x1, b, me, he, hej, hmj, _, hbn, hf', hsb, hset⟩
            · cases h0
            · rw [hset] at hr
              have hmj' : es'[j]? = some me := by simpa using hmj
              refine fin (es'.modify j fun e => { e with key := ca.eval k, val := ca.eval x }) c _ ?_ ?_ hr
              · rw [start _ hf']
                simp only [Nat.zero_add, hmj', Option.map_some, Option.getD_some, Instr.keyThatStays, hsb, if_true, Sem.run_bind, Sem.run_pure, Result.andThen_ok]
                rw [run_setObj_map' _ g1]
              · have hse : (es'.modify j fun e => { e with key := ca.eval k, val := ca.eval x }).toList = es'.toList.set j { key := ca.eval k, val := ca.eval x, born := me.born } := by
                  apply List.ext_getElem?
                  intro i
                  rw [Array.getElem?_toList, Array.getElem?_modify, List.getElem?_set, Array.getElem?_toList]
                  by_cases e : j = i
                  · subst e
                    have := (Array.getElem?_eq_some_iff.1 hmj').1
                    simp only [if_true, hmj', Option.map_some, Array.length_toList, this]
                  · simp [e]
                rw [hse]
                exact g2.set ⟨hkr, hxr, hbn⟩ j
          · rename_i hf
            rcases findEntry_ok hkr _ _ 0 _ g2 hf with ⟨_, hf'⟩ | ⟨j, k0, x1, b, m, he, _⟩
            · refine fin (es'.push { key := ca.eval k, val := ca.eval x, born := c }) (c + 1) _ ?_ ?_ hr
              · rw [start _ hf']
                rw [run_setObj_map' _ g1]
              · rw [Array.toList_push]
                exact g2.append_one ⟨hkr, hxr, rfl⟩
            · cases he
          · simp [applyR] at hr
        · simp [applyR] at hr
      · simp [applyR] at hr
    · simp [applyR] at hr
  · simp [applyR] at hr
end
end Go.AE

namespace Go.AE
set_option linter.unusedSectionVars false
variable [G : Glob]
section
variable {P : Program} {E : Env} {o : Oper} {a : Act} {ca : Go.Act} {φ : Phi} {h h' : Heap} {w : World} {v : AV}

theorem ok_range {t : TypeId} {x : Operand} (hE : E.Typed P) (hop : o.op = .range t x) (hw : WRel φ h w) (ha : ARel φ a ca)
    (hr : applyR h (fRange t x E a h) = some (v, h')) : OpOK P o ca φ h w v h' := by
  unfold fRange gRanget at hr
  split at hr
  · rename_i key elem _ _ _ _ hy
    obtain ⟨_, d, _, hu, hd, _⟩ := hE.at hy
    have := tdOf_map hd; subst this
    unfold gRange at hr
    split at hr
    · rename_i hx
      obtain ⟨rfl, hs, rfl⟩ := new_apply hr
      have hv := ha.eval hx
      simp only [VRel] at hv
      refine OpOK.new hw (sz := 0) (ob := .mapIter none 0 #[] 0) (v' := .pointer (some ⟨w.heap.size, 0, none⟩)) (w' := { w with heap := w.heap.push (.mapIter none 0 #[] 0) }) hs ?_ rfl ?_
      · simp only [execOp, hop, Instr.range, Sem.run_bind, run_underlying' w hu, Result.andThen_ok, hv, Sem.run_pure]
        rfl
      · intro ψ hm hn
        exact ⟨⟨rfl, rfl, none, #[], rfl, rfl, rfl⟩, by simp only [VRel]; exact ⟨_, hn, rfl⟩⟩
    · rename_i r hx
      have hv := ha.eval hx
      simp only [VRel] at hv
      obtain ⟨im, hb, hv⟩ := hv
      unfold gRange2 at hr
      split at hr
      · rename_i es c hg
        obtain ⟨es', g1, g2, gz, gs⟩ := mapAt hw hb hg
        obtain ⟨rfl, hs, rfl⟩ := new_apply hr
        refine OpOK.new hw (sz := 0) (ob := .mapIter (some im.cb) c #[] c) (v' := .pointer (some ⟨w.heap.size, 0, none⟩)) (w' := { w with heap := w.heap.push (.mapIter (some im.cb) c #[] c) }) hs ?_ rfl ?_
        · simp only [execOp, hop, Instr.range, Sem.run_bind, run_underlying' w hu, Result.andThen_ok, hv, run_getObj_map' g1, Sem.run_pure]
          rfl
        · intro ψ hm hn
          exact ⟨⟨rfl, rfl, some im.cb, #[], rfl, rfl, im, hm _ _ hb, rfl⟩, by simp only [VRel]; exact ⟨_, hn, rfl⟩⟩
      · simp [applyR] at hr
    · simp [applyR] at hr
  · simp [applyR] at hr

theorem memN_eq (n : Nat) : ∀ l : List Nat, memN n l = l.contains n
  | [] => rfl
  | m :: l => by
    simp only [memN]
    split
    · rename_i e
      have e := Nat.eq_of_beq_eq_true e; subst e; simp
    · rename_i e
      have hne : n ≠ m := by intro h; subst h; rw [Nat.beq_refl] at e; cases e
      rw [memN_eq n l]
      simp [hne]

theorem unseen_rel {seen : Array Nat} : ∀ {es : List (AV × AV × Nat)} {ms : List MapEntry}, ERels φ es ms → ERels φ (unseen seen.toList es) (ms.filter fun e => !seen.contains e.born)
  | [], ms, h => by simp only [ERels] at h; subst h; simp [unseen, ERels]
  | e :: es, ms, h => by
    obtain ⟨m, ms, rfl, ⟨h1, h2, h3⟩, hs⟩ := h
    have ih := unseen_rel (seen := seen) hs
    simp only [unseen, List.filter_cons]
    rw [memN_eq, ← h3]
    have : seen.toList.contains m.born = seen.contains m.born := by simp
    rw [this]
    cases hc : seen.contains m.born with
    | true =>
      rw [if_neg (by simp)]
      exact ih
    | false =>
      rw [if_pos (by simp)]
      exact ⟨m, _, rfl, ⟨h1, h2, h3⟩, ih⟩

theorem allBorn_eq {last : Nat} : ∀ {es : List (AV × AV × Nat)} {ms : List MapEntry}, ERels φ es ms → allBorn last es = ms.all fun e => decide (e.born ≥ last)
  | [], ms, h => by simp only [ERels] at h; subst h; rfl
  | e :: es, ms, h => by
    obtain ⟨m, ms, rfl, ⟨h1, h2, h3⟩, hs⟩ := h
    simp only [allBorn, List.all_cons]
    rw [← h3, ← allBorn_eq hs]
    cases hc : Nat.ble last m.born with
    | true => simp [Nat.le_of_ble_eq_true hc]
    | false =>
      have : ¬ last ≤ m.born := by intro h; have := Nat.ble_eq_true_of_le h; rw [this] at hc; cases hc
      simp [this]

theorem isNil_eq {α : Type} (l : List α) : isNil l = l.isEmpty := by cases l <;> rfl

theorem ok_next {x : Operand} (hop : o.op = .next x false) (hw : WRel φ h w) (ha : ARel φ a ca)
    (hr : applyR h (fNext x E a h) = some (v, h')) : OpOK P o ca φ h w v h' := by
  unfold fNext gNext at hr
  split at hr
  · rename_i r hx
    have hv := ha.eval hx
    simp only [VRel] at hv
    obtain ⟨im, hb, hv⟩ := hv
    unfold gNext2 at hr
    split at hr
    · rename_i since seen last hg
      obtain ⟨ob, h1, h2, h3, m', l', rfl, hl, hm⟩ := hw.live r _ im hg hb
      simp only at hm; subst hm
      obtain ⟨rfl, rfl⟩ := val_apply hr
      rw [h3] at hv
      refine OpOK.val hw (v' := .tuple #[.bool false]) ?_ (by simp only [VRel]; exact ⟨_, rfl, VRels.one (by simp only [VRel])⟩)
      simp only [execOp, hop, Instr.next, Sem.run_bind, hv, run_getObj_iter h1, Result.andThen_ok]
      rfl
    · rename_i m since seen last hg
      obtain ⟨ob, h1, h2, h3, m', l', rfl, hl, hm⟩ := hw.live r _ im hg hb
      obtain ⟨ir, hbm, rfl⟩ := hm
      subst hl
      rw [h3] at hv
      unfold gNext3 at hr
      split at hr
      · rename_i es clock hgm
        obtain ⟨es', g1, g2, gz, gs⟩ := mapAt hw hbm hgm
        split at hr
        · rename_i hcond
          have hcond' : (!l'.isEmpty && !es'.isEmpty && es'.all (fun e => decide (e.born ≥ last))) = false := by
            have e1 : isNil l'.toList = l'.isEmpty := by rw [isNil_eq]; simp
            have e2 : isNil es = es'.isEmpty := by
              have hl := g2.length
              simp only [Array.length_toList] at hl
              rw [isNil_eq, Bool.eq_iff_iff, List.isEmpty_iff, Array.isEmpty_iff, ← Array.size_eq_zero_iff, hl]
              exact List.length_eq_zero_iff.symm
            have e3 : allBorn last es = es'.all (fun e => decide (e.born ≥ last)) := by rw [allBorn_eq g2, Array.all_toList]
            rw [e1, e2, e3] at hcond
            revert hcond
            cases l'.isEmpty <;> cases es'.isEmpty <;> cases es'.all (fun e => decide (e.born ≥ last)) <;> simp
          have hun := unseen_rel (seen := l') g2
          rw [← Array.toList_filter] at hun
          have hfz : (Question.mapNext 1).forced = true := rfl
          unfold gNext4 at hr
          split at hr
          · rename_i hnil
            rw [hnil] at hun
            simp only [ERels] at hun
            have hleft : es'.filter (fun e => !l'.contains e.born) = #[] := by rw [← Array.toList_inj]; exact hun
            obtain ⟨rfl, rfl⟩ := val_apply hr
            refine OpOK.val hw (v' := .tuple #[.bool false]) ?_ (by simp only [VRel]; exact ⟨_, rfl, VRels.one (by simp only [VRel])⟩)
            simp only [execOp, hop, Instr.next, Sem.run_bind, hv, run_getObj_iter h1, Result.andThen_ok, run_getObj_map' g1]
            rw [if_neg (by rw [hcond']; simp)]
            simp only [hleft]
            simp [hfz]
          · rename_i k vv b hone
            rw [hone] at hun
            obtain ⟨me, ms, hfil, ⟨hk, hvv, hbn⟩, hrest⟩ := hun
            simp only [ERels] at hrest; subst hrest
            have hleft : es'.filter (fun e => !l'.contains e.born) = #[me] := by rw [← Array.toList_inj]; exact hfil
            split at hr
            · rename_i hlt
              have hlt : me.born < since := by rw [Nat.blt_eq] at hlt; simp only at hbn; omega
              obtain ⟨rfl, rfl⟩ := set_apply hr
              refine OpOK.set hw hb (by rw [hg]; simp) (n := .value (.tuple #[.bool true, me.key, me.val])) (v' := .tuple #[.bool true, me.key, me.val]) (ob := .mapIter (some ir.cb) since (l'.push me.born) clock)
                (w' := { w with heap := w.heap.setIfInBounds im.cb (.mapIter (some ir.cb) since (l'.push me.born) clock) }) ?_ (.inl rfl) h1 ?_ rfl ?_ ?_
              · simp only [execOp, hop, Instr.next, Sem.run_bind, hv, run_getObj_iter h1, Result.andThen_ok, run_getObj_map' g1]
                rw [if_neg (by rw [hcond']; simp)]
                have hge : ¬ since ≤ me.born := by omega
                simp only [hleft]
                simp [hlt, hge, hfz, run_setObj_iter _ h1]
              · intro i hs
                rcases hs with hs | ⟨c0, e0, h1', _⟩
                · exact .inl hs
                · cases h1'
              · exact ⟨h2, h3, some ir.cb, _, rfl, by simp only at hbn; simp [hbn], ir, hbm, rfl⟩
              · simp only [VRel]
                refine ⟨_, rfl, ?_⟩
                simp only [VRels]
                exact ⟨_, _, rfl, by simp only [VRel], _, _, rfl, hk, _, _, rfl, hvv, rfl⟩
            · simp [applyR] at hr
          · simp [applyR] at hr
        · simp [applyR] at hr
      · simp [applyR] at hr
    · simp [applyR] at hr
  · simp [applyR] at hr
end
end Go.AE

namespace Go.AE
set_option linter.unusedSectionVars false
variable [G : Glob]
section
variable {P : Program} {E : Env} {o : Oper} {a : Act} {ca : Go.Act} {φ : Phi} {h h' : Heap} {w : World} {v : AV}

/-! builtin functions -/
theorem exec_builtin {c : Call} {b : Builtin} (hop : o.op = .call c) (hc : c.callee = .builtin b) :
    ∃ cs : Array Bool, (execOp ca.eval o).run P w = (builtin b c.argTypes o.type cs (c.args.map ca.eval)).run P w := by
  refine ⟨(c.args.map fun | .const _ => true | _ => false), ?_⟩
  simp only [execOp, hop, resolve, hc, Sem.run_bind, Sem.run_pure, Result.andThen_ok, invoke]
  rfl

theorem arr_of_toList {α : Type} {x : Array α} {l : List α} (h : x.toList = l) : x = l.toArray := by
  cases x; simp at h; simp [h]

theorem one_arg {xs : List AV} {x : AV} {vs : Array Value} (h : VRels φ xs vs.toList) (e : xs = [x]) : ∃ x', vs = #[x'] ∧ VRel φ x x' := by
  subst e
  simp only [VRels] at h
  obtain ⟨y, ys, h1, h2, rfl⟩ := h
  exact ⟨y, arr_of_toList h1, h2⟩
theorem two_args {xs : List AV} {x y : AV} {vs : Array Value} (h : VRels φ xs vs.toList) (e : xs = [x, y]) : ∃ x' y', vs = #[x', y'] ∧ VRel φ x x' ∧ VRel φ y y' := by
  subst e
  simp only [VRels] at h
  obtain ⟨x', ys, h1, h2, y', zs, rfl, h3, rfl⟩ := h
  exact ⟨x', y', arr_of_toList h1, h2, h3⟩

theorem types_one {ts : Array TypeId} {t : Nat} {l : List Nat} (h : ts.toList = t :: l) : ts[0]? = some t := by
  rw [arr_of_toList h]; rfl

section
variable {c : Call} {xs : List AV}

/-- a builtin function that answers a value and leaves memory as it is -/
theorem builtin_val {b : Builtin} {v' : Value} (hop : o.op = .call c) (hc : c.callee = .builtin b) (hw : WRel φ h w)
    (hrun : ∀ cs : Array Bool, (builtin b c.argTypes o.type cs (c.args.map ca.eval)).run P w = .ok (.value v') w) (hv : VRel φ v v') : OpOK P o ca φ h w v h := by
  obtain ⟨cs, he⟩ := exec_builtin (P := P) (ca := ca) (w := w) hop hc
  exact OpOK.val hw (by rw [he, hrun]) hv

theorem ok_len (hE : E.Typed P) (hop : o.op = .call c) (hc : c.callee = .builtin .len) (hw : WRel φ h w) (hx : VRels φ xs (c.args.map ca.eval).toList)
    (hr : applyR h (bLen E h c.argTypes.toList xs) = some (v, h')) : OpOK P o ca φ h w v h' := by
  unfold bLen at hr
  split at hr
  · rename_i t l x hts
    have ht := types_one hts
    obtain ⟨x', hargs, hxr⟩ := one_arg hx rfl
    have hrun : ∀ (n : Int), (Builtin.len_ c.argTypes o.type #[x']).run P w = .ok (goInt n) w → v = .int .i64 n → h' = h → OpOK P o ca φ h w v h' := by
      intro n hrun hv hh
      subst hh
      refine builtin_val hop hc hw (v' := goInt n) (fun cs => ?_) (by subst hv; simp only [VRel]; rfl)
      rw [hargs]
      simp only [builtin, Sem.run_bind, hrun, Result.andThen_ok, Sem.run_pure]
    unfold gLen at hr
    split at hr
    · rename_i hy
      obtain ⟨_, d, _, hu, hd, _⟩ := hE.at hy
      obtain ⟨rfl, _⟩ := tdOf_slice hd
      unfold lenSl at hr
      split at hr
      · obtain ⟨hv, hh⟩ := val_apply hr
        simp only [VRel] at hxr
        obtain ⟨im, o', c', _, rfl, _⟩ := hxr
        exact hrun _ (by simp [Builtin.len_, ht, run_underlying' w hu]) hv hh
      · obtain ⟨hv, hh⟩ := val_apply hr
        simp only [VRel] at hxr; subst hxr
        exact hrun 0 (by simp [Builtin.len_, ht, run_underlying' w hu]) hv hh
      · simp [applyR] at hr
    · rename_i hy
      obtain ⟨_, d, _, hu, hd, _⟩ := hE.at hy
      have := tdOf_string hd; subst this
      unfold lenStr at hr
      split at hr
      · obtain ⟨hv, hh⟩ := val_apply hr
        simp only [VRel] at hxr
        obtain ⟨b, rfl, hb⟩ := hxr
        refine hrun b.size (by simp [Builtin.len_, ht, run_underlying' w hu]) ?_ hh
        rw [hv, lenN_eq, ← hb, List.length_map, Array.length_toList]; rfl
      · simp [applyR] at hr
    · rename_i hy
      obtain ⟨_, d, _, hu, hd, _⟩ := hE.at hy
      have := tdOf_map hd; subst this
      unfold lenMp at hr
      split at hr
      · obtain ⟨hv, hh⟩ := val_apply hr
        simp only [VRel] at hxr; subst hxr
        exact hrun 0 (by simp [Builtin.len_, ht, run_underlying' w hu]) hv hh
      · simp only [VRel] at hxr
        obtain ⟨im, hb, rfl⟩ := hxr
        unfold lenMap at hr
        split at hr
        · rename_i es c hg
          obtain ⟨hv, hh⟩ := val_apply hr
          obtain ⟨es', g1, g2, _, _⟩ := mapAt hw hb hg
          have := g2.length
          simp only [Array.length_toList] at this
          refine hrun es'.size (by simp [Builtin.len_, ht, run_underlying' w hu, run_getObj_map' g1]) ?_ hh
          rw [hv, lenN_eq, this]; rfl
        · simp [applyR] at hr
      · simp [applyR] at hr
    · rename_i n _ _ _ _ _ _ _ hy
      obtain ⟨_, d, _, hu, hd, _⟩ := hE.at hy
      obtain ⟨rfl, _⟩ := tdOf_arr hd
      obtain ⟨hv, hh⟩ := val_apply hr
      exact hrun n (by simp [Builtin.len_, ht, run_underlying' w hu]) hv hh
    · simp [applyR] at hr
  · simp [applyR] at hr

theorem ok_cap (hE : E.Typed P) (hop : o.op = .call c) (hc : c.callee = .builtin .cap) (hw : WRel φ h w) (hx : VRels φ xs (c.args.map ca.eval).toList)
    (hr : applyR h (bCap E c.argTypes.toList xs) = some (v, h')) : OpOK P o ca φ h w v h' := by
  unfold bCap at hr
  split at hr
  · rename_i t l x hts
    have ht := types_one hts
    obtain ⟨x', hargs, hxr⟩ := one_arg hx rfl
    have hrun : ∀ (n : Int), (Builtin.cap_ c.argTypes o.type #[x']).run P w = .ok (goInt n) w → v = .int .i64 n → h' = h → OpOK P o ca φ h w v h' := by
      intro n hrun hv hh
      subst hh
      refine builtin_val hop hc hw (v' := goInt n) (fun cs => ?_) (by subst hv; simp only [VRel]; rfl)
      rw [hargs]
      simp only [builtin, Sem.run_bind, hrun, Result.andThen_ok, Sem.run_pure]
    unfold gCap at hr
    split at hr
    · rename_i hy
      obtain ⟨_, d, _, hu, hd, _⟩ := hE.at hy
      obtain ⟨rfl, _⟩ := tdOf_slice hd
      unfold capSl at hr
      split at hr
      · obtain ⟨hv, hh⟩ := val_apply hr
        simp only [VRel] at hxr
        obtain ⟨im, o', c', _, rfl, _, _, hcap, _⟩ := hxr
        have := hcap _ rfl; subst this
        exact hrun _ (by simp [Builtin.cap_, ht, run_underlying' w hu]) hv hh
      · obtain ⟨hv, hh⟩ := val_apply hr
        simp only [VRel] at hxr; subst hxr
        exact hrun 0 (by simp [Builtin.cap_, ht, run_underlying' w hu]) hv hh
      · simp [applyR] at hr
    · simp [applyR] at hr
  · simp [applyR] at hr

theorem ok_max (hop : o.op = .call c) (hc : c.callee = .builtin .max) (hw : WRel φ h w) (hx : VRels φ xs (c.args.map ca.eval).toList)
    (hr : applyR h (bMax xs) = some (v, h')) : OpOK P o ca φ h w v h' := by
  unfold bMax at hr
  split at hr
  · rename_i x y
    obtain ⟨x', y', hargs, hxr, hyr⟩ := two_args hx rfl
    unfold gMax at hr
    split at hr
    · rename_i k m k' n
      split at hr
      · rename_i hs
        have hs := sameKind_eq hs; subst hs
        obtain ⟨hv, rfl⟩ := val_apply hr
        simp only [VRel] at hxr hyr; subst hxr; subst hyr
        refine builtin_val hop hc hw (v' := .int k (if n > m then n else m)) (fun cs => ?_) ?_
        · rw [hargs]
          simp [builtin, Builtin.max_, Builtin.max2]
        · rw [hv, ltF_eq]
          simp only [VRel]
          by_cases h : m < n <;> simp [h]
      · simp [applyR] at hr
    · simp [applyR] at hr
  · simp [applyR] at hr

theorem ok_min (hop : o.op = .call c) (hc : c.callee = .builtin .min) (hw : WRel φ h w) (hx : VRels φ xs (c.args.map ca.eval).toList)
    (hr : applyR h (bMin xs) = some (v, h')) : OpOK P o ca φ h w v h' := by
  unfold bMin at hr
  split at hr
  · rename_i x y
    obtain ⟨x', y', hargs, hxr, hyr⟩ := two_args hx rfl
    unfold gMin at hr
    split at hr
    · rename_i k m k' n
      split at hr
      · rename_i hs
        have hs := sameKind_eq hs; subst hs
        obtain ⟨hv, rfl⟩ := val_apply hr
        simp only [VRel] at hxr hyr; subst hxr; subst hyr
        refine builtin_val hop hc hw (v' := .int k (if n < m then n else m)) (fun cs => ?_) ?_
        · rw [hargs]
          simp [builtin, Builtin.min_, Builtin.min2]
        · rw [hv, ltF_eq]
          simp only [VRel]
          by_cases h : n < m <;> simp [h]
      · simp [applyR] at hr
    · simp [applyR] at hr
  · simp [applyR] at hr

theorem ok_clear (hE : E.Typed P) (hop : o.op = .call c) (hc : c.callee = .builtin .clear) (hw : WRel φ h w) (hx : VRels φ xs (c.args.map ca.eval).toList)
    (hr : applyR h (bClear E h c.argTypes.toList xs) = some (v, h')) : OpOK P o ca φ h w v h' := by
  unfold bClear at hr
  split at hr
  · rename_i t l x hts
    have ht := types_one hts
    obtain ⟨x', hargs, hxr⟩ := one_arg hx rfl
    unfold gClear at hr
    split at hr
    · rename_i hy
      obtain ⟨_, d, _, hu, hd, _⟩ := hE.at hy
      have := tdOf_map hd; subst this
      unfold clearMp at hr
      split at hr
      · obtain ⟨rfl, rfl⟩ := val_apply hr
        simp only [VRel] at hxr; subst hxr
        refine builtin_val hop hc hw (v' := undef) (fun cs => ?_) (unit_rel φ)
        rw [hargs]
        simp [builtin, Builtin.clear_, ht, run_underlying' w hu, undef]
      · simp only [VRel] at hxr
        obtain ⟨im, hb, rfl⟩ := hxr
        unfold gClear2 at hr
        split at hr
        · rename_i es c' hg
          obtain ⟨rfl, rfl⟩ := set_apply hr
          obtain ⟨es', g1, g2, gz, gs⟩ := mapAt hw hb hg
          obtain ⟨cs, he⟩ := exec_builtin (P := P) (ca := ca) (w := w) hop hc
          refine OpOK.set hw hb (by rw [hg]; simp) (n := .value undef) (v' := undef) (ob := .map #[] c') (w' := { w with heap := w.heap.setIfInBounds im.cb (.map #[] c') }) ?_ (.inl rfl) g1 ?_ rfl ⟨gz, gs, #[], rfl, rfl⟩ (unit_rel φ)
          · rw [he, hargs]
            simp [builtin, Builtin.clear_, ht, run_underlying' w hu, run_getObj_map' g1, run_setObj_map' _ g1, undef]
          · intro i hs
            rcases hs with hs | ⟨c0, e0, h1, _⟩
            · exact .inl hs
            · cases h1
        · simp [applyR] at hr
      · simp [applyR] at hr
    · simp [applyR] at hr
  · simp [applyR] at hr
end
end
end Go.AE

namespace Go.AE
set_option linter.unusedSectionVars false
variable [G : Glob]
section
variable {P : Program} {E : Env} {o : Oper} {a : Act} {ca : Go.Act} {φ : Phi} {h h' : Heap} {w : World} {v : AV}

theorem slice_cells (hw : WRel φ h w) {b off len es o' : Nat} {im : Im} {old : List AV} (hb : φ b = some im) (ht : takeCells h b off (len * es) = some old) (ho : len ≠ 0 → o' = im.sh + off) :
    ∃ c0 e0, w.heap[im.cb]? = some (.cells c0 e0 (0, 0)) ∧ c0.size = im.sz ∧ VRels φ old ((c0.toList.drop o').take (len * es)) ∧ old.length = len * es ∧ old.all AV.flat = true ∧ (len * es ≠ 0 → o' + len * es ≤ c0.size) := by
  obtain ⟨c0, e0, h1, h2, h3, h4, h5, h6⟩ := cells_at hw hb ht
  refine ⟨c0, e0, h1, h2, ?_, h4, h5, fun hn => ?_⟩
  · by_cases hl : len = 0
    · subst hl
      have : old = [] := List.eq_nil_of_length_eq_zero (by simpa using h4)
      subst this
      simp [VRels.nil]
    · rw [ho hl]; exact h3
  · have hl : len ≠ 0 := by intro e; subst e; simp at hn
    rw [ho hl]; exact h6 hn

theorem flat_one {xs : List AV} {vs : List Value} (h : VRels φ xs vs) (hf : xs.all AV.flat = true) : ∀ x ∈ vs, x.oneCell' = true := by
  intro x hx
  obtain ⟨i, hi⟩ := List.getElem?_of_mem hx
  have hl := h.length
  have hilt : i < xs.length := by have := (List.getElem?_eq_some_iff.1 hi).1; omega
  obtain ⟨y, hy, hr⟩ := h.get i (List.getElem?_eq_getElem hilt)
  rw [hi] at hy; cases hy
  exact hr.flat (List.all_eq_true.1 hf _ (List.getElem_mem hilt))

/-- cells, as the source of an append -/
theorem src_of_cells {size cb o' n c' : Nat} {tx e' e0 : TypeId} {c0 : Array Value} (hk : P.underlying tx = some (.slice e')) (hc : w.heap[cb]? = some (.cells c0 e0 (0, 0)))
    (hle : n * size ≠ 0 → o' + n * size ≤ c0.size) (h1 : ∀ u ∈ (c0.toList.drop o').take (n * size), u.oneCell' = true) :
    Src P size tx (.slice (some ⟨cb, o', none⟩) n c') n ((c0.toList.drop o').take (n * size)) w := by
  refine Src.ofSlice w hk _ n c' _ ?_ ?_ h1
  · by_cases hn : n * size = 0
    · simp [hn]
    · have := hle hn; simp; omega
  · intro j u hj
    rw [List.getElem?_take] at hj
    split at hj
    · rw [List.getElem?_drop] at hj
      rw [addr_add]
      simp [World.cell?, hc]; simpa using hj
    · cases hj

/-- what is appended: both ways that an append may go -/
structure AppSrc (P : Program) (t t1 elem : TypeId) (j : TypeInfo) (zv : Value) (x' : Value) (n : Nat) (news : List Value) (w : World) : Prop where
  len : news.length = n * j.size
  none0 : ∀ ty, n = 0 → (Builtin.append_ #[t, t1] ty #[.slice none 0 0, x']).run P w = .ok (.slice none 0 0) w
  some0 : ∀ ty a l c, l ≤ c → n = 0 → (Builtin.append_ #[t, t1] ty #[.slice (some a) l c, x']).run P w = .ok (.slice (some a) l c) w
  grow : ∀ ty base sLen sCap olds, (Builtin.firstCells j.size sLen (.slice base sLen sCap)).run P w.drew = .ok olds.toArray w.drew → n ≠ 0 → sCap < sLen + n → sLen + n ≤ 35184372088832 → (sLen + n) * j.bytes ≤ 35184372088832 →
    (Builtin.append_ #[t, t1] ty #[.slice base sLen sCap, x']).run P w = .ok (.slice (some ⟨w.heap.size, 0, none⟩) (sLen + n) (grownCap w (sLen + n) sCap elem))
        (w.drew.alloc (.cells ((olds ++ news).toArray ++ Builtin.zeroCells zv.cells (grownCap w (sLen + n) sCap elem - (sLen + n))) elem))
  room : ∀ ty cb o' sLen sCap c0 e0, w.heap[cb]? = some (.cells c0 e0 (0, 0)) → sLen + n ≤ sCap → o' + sLen * j.size + news.length ≤ c0.size →
    (Builtin.append_ #[t, t1] ty #[.slice (some ⟨cb, o', none⟩) sLen sCap, x']).run P w = .ok (.slice (some ⟨cb, o', none⟩) (sLen + n) sCap)
      (w.setRow cb (c0.toList.take (o' + sLen * j.size) ++ news ++ c0.toList.drop (o' + sLen * j.size + news.length)).toArray)

theorem AppSrc.of_src {t t1 elem n : Nat} {j : TypeInfo} {zv x' : Value} {news : List Value} (ht : P.underlying t = some (.slice elem)) (hj : P.info? elem = some j) (hz : j.zero = some zv)
    (hsrc : Src P j.size t1 x' n news w) : AppSrc P t t1 elem j zv x' n news w where
  len := hsrc.newsLen
  none0 ty hn := by
    subst hn
    have h0 : news = [] := List.eq_nil_of_length_eq_zero (by simpa using hsrc.newsLen)
    subst h0
    rcases hsrc.kind with ⟨e', hk⟩ | hk <;> simp [Builtin.append_, Go.run_underlying ht, Go.run_underlying hk, sizeOf, typeInfo, hj, hsrc.len, hsrc.cells]
  some0 ty a l c hlc hn := by
    subst hn
    have h0 : news = [] := List.eq_nil_of_length_eq_zero (by simpa using hsrc.newsLen)
    subst h0
    rcases hsrc.kind with ⟨e', hk⟩ | hk <;> simp [Builtin.append_, Go.run_underlying ht, Go.run_underlying hk, sizeOf, typeInfo, hj, hsrc.len, hsrc.cells, hlc, storeCells]
  grow ty base sLen sCap olds hold _ hg h1 h2 := run_append_grow_src (P := P) w t t1 ty elem j zv ht hj hz base sLen sCap olds hold x' n news hsrc hg (by omega) (growslice_fits hg (by omega))
  room ty cb o' sLen sCap c0 e0 hcell hroom hfit := by
    have hst := run_storeCells_at P cb (o' + sLen * j.size) e0 news 0 c0 w hcell (by simpa using hfit) hsrc.one
    simp only [Nat.add_zero] at hst
    rcases hsrc.kind with ⟨e', hk⟩ | hk <;> simp [Builtin.append_, Go.run_underlying ht, Go.run_underlying hk, sizeOf, typeInfo, hj, hsrc.len, hroom, hsrc.cells, addr_add, hst]

theorem AppSrc.of_zeros {t t1 elem n : Nat} {j : TypeInfo} {zv : Value} {kq kn : IntKind} (ht : P.underlying t = some (.slice elem)) (htn : P.underlying t1 = some (.int kn)) (hj : P.info? elem = some j) (hz : j.zero = some zv)
    (hzs : zv.cells.size = j.size) (hs : 0 < j.size) (h1 : ∀ u ∈ (Builtin.zeroCells zv.cells n).toList, u.oneCell' = true) (hn1 : n ≤ 35184372088832) (hn2 : n * j.bytes ≤ 35184372088832) :
    AppSrc P t t1 elem j zv (.int kq (n : Int)) n (Builtin.zeroCells zv.cells n).toList w := by
  have hwr : IntKind.i64.wrap (n : Int) = n := wrap_small (by omega)
  have hw0 : IntKind.i64.wrap 0 = 0 := wrap_small (n := 0) (by omega)
  have h48i : ¬ (281474976710656 < (n : Int) * (j.bytes : Int)) := by
    rw [← Int.natCast_mul]; omega
  have hneg : ¬ ((n : Int) < 0) := by omega
  refine ⟨by simp [size_zeroCells, hzs], fun ty hn => ?_, fun ty a l c hlc hn => ?_, fun ty base sLen sCap olds hold hn0 hg h1 h2 => ?_, fun ty cb o' sLen sCap c0 e0 hcell hroom hfit => ?_⟩
  · subst hn
    simp [Builtin.append_, Go.run_underlying ht, Go.run_underlying htn, sizeOf, typeInfo, hj, asInt, asIntOf, hw0]
  · subst hn
    simp [Builtin.append_, Go.run_underlying ht, Go.run_underlying htn, sizeOf, typeInfo, hj, asInt, asIntOf, hw0, hlc, storeCells]
  · have := Lib.run_append_grow_zeros (P := P) w t t1 ty elem j zv kq kn ht htn hj hz base sLen sCap olds hold n (by omega) hs hg (by omega) (by omega) (growslice_fits hg (by omega))
    rw [this]
    congr 4
    apply Array.ext'
    simp
  · by_cases hn0 : n = 0
    · subst hn0
      have hnil : (Builtin.zeroCells zv.cells 0).toList = [] := by simp [Builtin.zeroCells]
      have hset : w.setRow cb (c0.toList.take (o' + sLen * j.size) ++ (Builtin.zeroCells zv.cells 0).toList ++ c0.toList.drop (o' + sLen * j.size + (Builtin.zeroCells zv.cells 0).toList.length)).toArray = w := by
        rw [hnil]
        have hst := run_storeCells_at P cb (o' + sLen * j.size) e0 [] 0 c0 w hcell (by simpa [hnil] using hfit) (fun u hu => by cases hu)
        simp only [Nat.add_zero] at hst
        have h0 : (storeCells ⟨cb, o' + sLen * j.size, none⟩ ([] : List Value) 0).run P w = .ok () w := rfl
        rw [h0] at hst
        exact (Result.ok.inj hst).2.symm
      rw [hset]
      simp [Builtin.append_, Go.run_underlying ht, Go.run_underlying htn, sizeOf, typeInfo, hj, asInt, asIntOf, hw0, storeCells]
      omega
    · have hst := run_storeCells_at P cb (o' + sLen * j.size) e0 (Builtin.zeroCells zv.cells n).toList 0 c0 w hcell (by simpa using hfit) h1
      simp only [Nat.add_zero] at hst
      have hns : ¬ (n * j.size = 0) := Nat.mul_ne_zero hn0 (by omega)
      simp [Builtin.append_, Go.run_underlying ht, Go.run_underlying htn, sizeOf, typeInfo, zeroValue, hj, hz, asInt, asIntOf, hwr, hneg, h48i, hroom, hns, addr_add, hst]

theorem src_rel (hE : E.Typed P) (hw : WRel φ h w) {x : AV} {x' : Value} {t t1 elem n : Nat} {j : TypeInfo} {zv : Value} {z new : List AV} (ht : P.underlying t = some (.slice elem)) (hj : P.info? elem = some j)
    (hz : zOf (E.ty elem) = some z) (hzv : j.zero = some zv) (hx : VRel φ x x') (hs : srcCells E h elem j.size j.bytes x (E.ty t1) = some (new, n)) :
    ∃ news, AppSrc P t t1 elem j zv x' n news w ∧ VRels φ new news ∧ new.all AV.flat = true ∧ new.length = n * j.size := by
  unfold srcCells at hs
  split at hs
  · rename_i hy
    obtain ⟨_, d, _, hu, hd, _⟩ := hE.at hy
    obtain ⟨rfl, _⟩ := tdOf_slice hd
    unfold srcSl at hs
    split at hs
    · cases hs
      simp only [VRel] at hx; subst hx
      exact ⟨[], .of_src ht hj hzv (Src.ofNil w hu 0), VRels.nil φ, rfl, by simp⟩
    · rename_i b off m c es'
      split at hs
      · rename_i hes
        have hes := Nat.eq_of_beq_eq_true hes; subst hes
        unfold withLen at hs
        split at hs
        · rename_i cs hcs
          cases hs
          simp only [VRel] at hx
          obtain ⟨im, o', c', hb, rfl, hlc, hsz, hcap, hoff⟩ := hx
          obtain ⟨c0, e0, g1, g2, g3, g4, g5, g6⟩ := slice_cells hw hb hcs (fun hn => hoff (.inl hn))
          exact ⟨_, .of_src ht hj hzv (src_of_cells hu g1 g6 (flat_one g3 g5)), g3, g5, g4⟩
        · cases hs
      · cases hs
    · cases hs
  · rename_i hy
    obtain ⟨_, d, _, hu, hd, _⟩ := hE.at hy
    have := tdOf_int hd; subst this
    unfold srcInt at hs
    split at hs
    · rename_i k m
      split at hs
      · rename_i hb
        simp only [Bool.and_eq_true, Nat.ble_eq, Nat.blt_eq] at hb
        simp only [VRel] at hx; subst hx
        rw [hz] at hs
        simp only [zeros, Option.some.injEq, Prod.mk.injEq] at hs
        obtain ⟨rfl, rfl⟩ := hs
        obtain ⟨zv', hzv', hzs, hzl, hzf, hzr⟩ := hE.zero' hj hz
        rw [hzv] at hzv'; cases hzv'
        obtain ⟨r1, r2⟩ := zero_row (n := m) (zero := zv.cells) hzr hzf hzs (.inr rfl) φ
        have hzc : (Builtin.zeroCells zv.cells m).toList = ((Array.range (m * j.size)).map fun i => zv.cells[i % zv.cells.size]!).toList := by
          unfold Builtin.zeroCells; rw [hzs]
        rw [← hzc] at r1
        exact ⟨_, .of_zeros ht hu hj hzv hzs hb.1 (flat_one r1 r2) hb.2.1 hb.2.2, r1, r2, by have := r1.length; simp only [Array.length_toList, size_zeroCells, hzs] at this; exact this.symm⟩
      · cases hs
    · cases hs
  · cases hs

theorem orel_prefix {ψ : Phi} {n sz : Nat} {vs : List AV} {ps : List Value} {rest : Array Value} {e : TypeId} (hv : VRels ψ vs ps) (hf : vs.all AV.flat = true) (hsz : sz = (ps.toArray ++ rest).size) :
    ORel ψ ⟨n, 0, sz⟩ (.cells vs) (.cells (ps.toArray ++ rest) e) := by
  have hl := hv.length
  refine ⟨_, e, rfl, hsz.symm, by simp at hsz ⊢; omega, ?_, hf⟩
  rw [List.drop_zero]
  simp only [Array.toList_append]
  rw [← hl, List.take_left]
  exact hv

end
end Go.AE

namespace Go.AE
set_option linter.unusedSectionVars false
variable [G : Glob]
section
variable {P : Program} {E : Env} {o : Oper} {a : Act} {ca : Go.Act} {φ : Phi} {h h' : Heap} {w : World} {v : AV}

theorem kill_apply {b : Nat} {ao : AO} {x : AV} (hr : applyR h (.kill b ao x) = some (v, h')) : v = x ∧ h.nx < bigN ∧ h' = (h.kill b).new ao := by
  simp only [applyR] at hr
  split at hr
  · rename_i hs; simp at hr; exact ⟨hr.1.symm, hs, hr.2.symm⟩
  · cases hr

theorem splice_drop {α : Type} (L N : List α) (o k : Nat) (h : o + k + N.length ≤ L.length) :
    ((L.take (o + k) ++ N ++ L.drop (o + k + N.length)).drop o).take (k + N.length) = (L.drop o).take k ++ N := by
  rw [List.append_assoc, List.drop_append_of_le_length (by simp; omega), List.drop_take, show o + k - o = k by omega, ← List.append_assoc, List.take_left' (by simp; omega)]

section
variable {c : Call} {x : AV} {s' x' : Value} {t t1 elem n len : Nat} {j : TypeInfo} {zv : Value} {new old : List AV} {news olds : List Value}

/-- what the model does where it takes a new row -/
theorem app_grow (hop : o.op = .call c) (hc : c.callee = .builtin .append) (hts : c.argTypes = #[t, t1]) {base : Option Addr} {sCap : Nat} (hargs : c.args.map ca.eval = #[.slice base len sCap, x'])
    (hzs : zv.cells.size = j.size) (hold : (Builtin.firstCells j.size len (.slice base len sCap)).run P w.drew = .ok olds.toArray w.drew) (hol : olds.length = len * j.size) (hsrc : AppSrc P t t1 elem j zv x' n news w)
    (hn : n ≠ 0) (hg : sCap < len + n) (hb1 : (len + n) * j.bytes ≤ 35184372088832) (hb2 : len + n ≤ 35184372088832) :
    ∃ (cap : Nat) (rest : Array Value), len + n ≤ cap ∧ ((olds ++ news).toArray ++ rest).size = cap * j.size ∧
      (execOp ca.eval o).run P w = .ok (.value (.slice (some ⟨w.heap.size, 0, none⟩) (len + n) cap)) (w.drew.alloc (.cells ((olds ++ news).toArray ++ rest) elem)) := by
  obtain ⟨cs, he⟩ := exec_builtin (P := P) (ca := ca) (w := w) hop hc
  have hrun := hsrc.grow o.type base len sCap olds hold hn hg hb2 hb1
  have hge := grownCap_ge w (len + n) sCap elem
  refine ⟨grownCap w (len + n) sCap elem, Builtin.zeroCells zv.cells (grownCap w (len + n) sCap elem - (len + n)), hge, ?_, ?_⟩
  rotate_left
  · rw [he, hts, hargs]
    simp only [builtin, Sem.run_bind, hrun, Result.andThen_ok, Sem.run_pure]
  · rw [Array.size_append, size_zeroCells, hzs]
    have hnl := hsrc.len
    simp only [List.size_toArray, List.length_append, hol, hnl]
    rw [← Nat.add_mul, ← Nat.add_mul]
    congr 1; omega

/-- .. and where there is room -/
theorem app_room (hop : o.op = .call c) (hc : c.callee = .builtin .append) (hts : c.argTypes = #[t, t1]) {cb o' sCap e0 : Nat} {c0 : Array Value} (hargs : c.args.map ca.eval = #[.slice (some ⟨cb, o', none⟩) len sCap, x'])
    (hcell : w.heap[cb]? = some (.cells c0 e0 (0, 0))) (hsrc : AppSrc P t t1 elem j zv x' n news w) (hroom : len + n ≤ sCap) (hfit : o' + len * j.size + news.length ≤ c0.size) :
    (execOp ca.eval o).run P w = .ok (.value (.slice (some ⟨cb, o', none⟩) (len + n) sCap))
      (w.setRow cb (c0.toList.take (o' + len * j.size) ++ news ++ c0.toList.drop (o' + len * j.size + news.length)).toArray) := by
  obtain ⟨cs, he⟩ := exec_builtin (P := P) (ca := ca) (w := w) hop hc
  have hrun := hsrc.room o.type cb o' len sCap c0 e0 hcell hroom hfit
  rw [he, hts, hargs]
  simp only [builtin, Sem.run_bind, hrun, Result.andThen_ok, Sem.run_pure]

theorem app_none (hop : o.op = .call c) (hc : c.callee = .builtin .append) (hw : WRel φ h w) {s : AV} {s' : Value} (hv : VRel φ s s')
    (hrun : (Builtin.append_ c.argTypes o.type (c.args.map ca.eval)).run P w = .ok s' w) : OpOK P o ca φ h w s h :=
  builtin_val hop hc hw (v' := s') (fun cs => by simp only [builtin, Sem.run_bind, hrun, Result.andThen_ok, Sem.run_pure]) hv
end

theorem ok_append {c : Call} {xs : List AV} (hE : E.Typed P) (hop : o.op = .call c) (hc : c.callee = .builtin .append) (hw : WRel φ h w) (hx : VRels φ xs (c.args.map ca.eval).toList)
    (hr : applyR h (bAp E h c.argTypes.toList xs) = some (v, h')) : OpOK P o ca φ h w v h' := by
  unfold bAp at hr
  split at hr
  · rename_i t t1 s x hts
    have hts := arr_of_toList hts
    obtain ⟨s', x', hargs, hsr, hxr⟩ := two_args hx rfl
    unfold gAp at hr
    split at hr
    · rename_i elem es eb _ _ _ _ hy
      obtain ⟨_, d, _, hu, hd, _⟩ := hE.at hy
      obtain ⟨rfl, j, hj, rfl, rfl⟩ := tdOf_slice hd
      unfold gAp0 at hr
      split at hr
      · rename_i z hz
        obtain ⟨zv, hzv, hzs, hzl, hzf, hzr⟩ := hE.zero' hj hz
        unfold gAp1 at hr
        split at hr
        · -- nothing is appended
          rename_i new hsrc
          obtain ⟨news, hs, _, _, _⟩ := src_rel hE hw hu hj hz hzv hxr hsrc
          unfold slVal at hr
          split at hr
          · obtain ⟨rfl, rfl⟩ := val_apply hr
            have hsr' := hsr
            simp only [VRel] at hsr'; subst hsr'
            exact app_none hop hc hw hsr (by rw [hts, hargs]; exact hs.none0 _ rfl)
          · obtain ⟨rfl, rfl⟩ := val_apply hr
            have hsr' := hsr
            simp only [VRel] at hsr'
            obtain ⟨im, o', c', hb, rfl, hlc, _⟩ := hsr'
            exact app_none hop hc hw hsr (by rw [hts, hargs]; exact hs.some0 _ _ _ _ hlc rfl)
          · simp [applyR] at hr
        · rename_i new n hsrc
          obtain ⟨news, hs, hnr, hnf, hnl⟩ := src_rel hE hw hu hj hz hzv hxr hsrc
          have hnews : news.length = new.length := hnr.length
          unfold gAp2 at hr
          split at hr
          · -- onto nil
            split at hr
            · rename_i hbs
              simp only [Bool.and_eq_true, Nat.ble_eq] at hbs
              simp only [VRel] at hsr; subst hsr
              obtain ⟨rfl, hsm, rfl⟩ := new_apply hr
              obtain ⟨cap, rest, h1, h2, h3⟩ := app_grow (olds := []) hop hc hts hargs hzs (run_firstCells_none w.drew j.size 0 0 0) (by simp) hs (by omega) (by omega) (by simpa using hbs.1) (by simpa using hbs.2)
              simp only [Nat.zero_add, List.nil_append] at h1 h2 h3
              refine OpOK.new hw (sz := (news.toArray ++ rest).size) (ob := .cells (news.toArray ++ rest) elem) hsm h3 rfl ?_
              intro ψ hm hn
              refine ⟨orel_prefix (hnr.mono hm) hnf rfl, ?_⟩
              simp only [VRel]
              exact ⟨_, 0, cap, hn, rfl, h1, by simp only [Nat.zero_add]; omega, fun x hx => (by cases hx), fun _ => rfl⟩
            · simp [applyR] at hr
          · -- onto a slice
            rename_i b off len cap es'
            split at hr
            · rename_i hes
              have hes := Nat.eq_of_beq_eq_true hes; subst hes
              unfold gAp3 at hr
              split at hr
              · rename_i old hold
                split at hr
                · rename_i hbs
                  simp only [Bool.and_eq_true, Nat.ble_eq] at hbs
                  simp only [VRel] at hsr
                  obtain ⟨im, o', c', hb, rfl, hlc, hsz, hcap, hoff⟩ := hsr
                  obtain ⟨c0, e0, g1, g2, g3, g4, g5, g6⟩ := slice_cells hw hb hold (fun hn => hoff (.inl hn))
                  have hlive : ∃ cs, h.get b = some (.cells cs) := by
                    obtain ⟨cs, hg, _⟩ := takeCells_some hold
                    exact ⟨cs, hg⟩
                  obtain ⟨cs0, hg⟩ := hlive
                  have hrel : VRels φ (app old new) ((c0.toList.drop o').take (len * j.size) ++ news) := by rw [app_eq]; exact g3.append hnr
                  have hflat : (app old new).all AV.flat = true := by rw [app_eq, List.all_append, g5, hnf]; rfl
                  have holdl : ((c0.toList.drop o').take (len * j.size)).length = len * j.size := g3.length.trans g4
                  have hrunold : (Builtin.firstCells j.size len (.slice (some ⟨im.cb, o', none⟩) len c')).run P w.drew = .ok ((c0.toList.drop o').take (len * j.size)).toArray w.drew :=
                    (src_of_cells (w := w) (tx := t) hu g1 g6 (flat_one g3 g5)).cellsD
                  have hmul : (len + (n + 1)) * j.size = len * j.size + news.length := by rw [Nat.add_mul, hnews, hnl]
                  unfold gAp4 at hr
                  split at hr
                  · -- known capacity
                    rename_i cc
                    have := hcap cc rfl; subst this
                    have ho := hoff (.inr (by simp))
                    split at hr
                    · rename_i hfit
                      have hfit := Nat.le_of_ble_eq_true hfit
                      unfold gApIn at hr
                      rw [hg] at hr
                      simp only at hr
                      split at hr
                      · rename_i cs' hput
                        obtain ⟨rfl, rfl⟩ := set_apply hr
                        obtain ⟨o0, h0, hor⟩ := hw.live b _ im hg hb
                        rw [g1] at h0; cases h0
                        obtain ⟨c1, e1, hce, hle, hone, hor'⟩ := putAt_rel hor hnr hnf hput
                        cases hce
                        have hoe : im.sh + (off + len * j.size) = o' + len * j.size := by omega
                        rw [hoe] at hle hor'
                        have hrun := app_room hop hc hts hargs g1 hs hfit hle
                        generalize harr : (List.take (o' + len * j.size) c0.toList ++ news ++ List.drop (o' + len * j.size + news.length) c0.toList).toArray = arr at hrun hor'
                        refine OpOK.set hw hb (by rw [hg]; simp) hrun (.inl rfl) g1 (ob := .cells arr e0 (0, 0)) ?_ (setRow_eq arr g1) hor' ?_
                        · intro i hs
                          refine sized_cells ?_ i hs
                          subst harr
                          simp only [List.size_toArray, List.length_append, List.length_take, List.length_drop, Array.length_toList]
                          omega
                        · simp only [VRel]
                          exact ⟨im, o', c', hb, rfl, hfit, hsz, fun x hx => by cases hx; rfl, fun _ => ho⟩
                      · simp [applyR] at hr
                    · rename_i hfit
                      have hfit : c' < len + (n + 1) := by
                        apply Classical.byContradiction; intro hh
                        have := Nat.ble_eq_true_of_le (show len + (n + 1) ≤ c' by omega)
                        rw [this] at hfit; cases hfit
                      obtain ⟨rfl, hsm, rfl⟩ := new_apply hr
                      obtain ⟨cap, rest, h1, h2, h3⟩ := app_grow hop hc hts hargs hzs hrunold holdl hs (by omega) hfit hbs.1 hbs.2
                      refine OpOK.new hw (sz := ((List.take (len * j.size) (List.drop o' c0.toList) ++ news).toArray ++ rest).size) (ob := .cells _ elem) hsm h3 rfl ?_
                      intro ψ hm hn
                      refine ⟨orel_prefix (hrel.mono hm) hflat rfl, ?_⟩
                      simp only [VRel]
                      exact ⟨_, 0, cap, hn, rfl, h1, by simp only [Nat.zero_add]; omega, fun x hx => (by cases hx), fun _ => rfl⟩
                  · -- unknown capacity
                    obtain ⟨rfl, hsm, rfl⟩ := kill_apply hr
                    intro fr
                    have hf : φ h.nx = none := fr h.nx (Nat.le_refl _) (Nat.lt_succ_self _)
                    by_cases hfit : len + (n + 1) ≤ c'
                    · have hle : o' + len * j.size + news.length ≤ c0.size := by
                        have := Nat.mul_le_mul_right j.size hfit
                        omega
                      have hrun := app_room hop hc hts hargs g1 hs hfit hle
                      generalize harr : (List.take (o' + len * j.size) c0.toList ++ news ++ List.drop (o' + len * j.size + news.length) c0.toList).toArray = arr at hrun
                      have hasz : arr.size = c0.size := by
                        subst harr
                        simp only [List.size_toArray, List.length_append, List.length_take, List.length_drop, Array.length_toList]
                        omega
                      have hor : ORel (upd φ h.nx ⟨im.cb, o', im.sz⟩) ⟨im.cb, o', im.sz⟩ (.cells (app old new)) (.cells arr e0 (0, 0)) := by
                        have hlen : (app old new).length = len * j.size + news.length := by rw [app_eq, List.length_append]; omega
                        refine ⟨arr, e0, rfl, by show arr.size = im.sz; omega, by show o' + _ ≤ im.sz; omega, ?_, hflat⟩
                        have hl : (arr.toList.drop o').take (app old new).length = (c0.toList.drop o').take (len * j.size) ++ news := by
                          subst harr
                          rw [hlen]
                          exact splice_drop _ _ _ _ (by simpa using hle)
                        show VRels _ _ ((arr.toList.drop o').take (app old new).length)
                        rw [hl]
                        exact hrel.mono (upd_mono hf)
                      obtain ⟨a1, a2⟩ := change_kill_in hw hb (by rw [hg]; simp) hf hsm g1 (fun i hs => sized_cells hasz i hs) (setRow_eq arr g1) hor ⟨rfl, rfl⟩
                      refine ⟨_, _, _, _, hrun, .inl rfl, a1, a2, ?_⟩
                      simp only [VRel]
                      exact ⟨_, o', c', upd_self _ _ _, rfl, hfit, hsz, fun x hx => (by cases hx), fun _ => rfl⟩
                    · obtain ⟨cap, rest, h1, h2, h3⟩ := app_grow hop hc hts hargs hzs hrunold holdl hs (by omega) (by omega) hbs.1 hbs.2
                      obtain ⟨a1, a2⟩ := change_kill_new (sz := ((List.take (len * j.size) (List.drop o' c0.toList) ++ news).toArray ++ rest).size) (w' := w.drew.alloc (.cells ((List.take (len * j.size) (List.drop o' c0.toList) ++ news).toArray ++ rest) elem)) hw hb (by rw [hg]; simp) hf hsm rfl
                        (orel_prefix (hrel.mono (upd_mono hf)) hflat rfl) ⟨rfl, rfl⟩
                      refine ⟨_, _, _, _, h3, .inl rfl, a1, a2, ?_⟩
                      simp only [VRel]
                      exact ⟨_, 0, cap, upd_self _ _ _, rfl, h1, by simp only [Nat.zero_add]; omega, fun x hx => (by cases hx), fun _ => rfl⟩
                · simp [applyR] at hr
              · simp [applyR] at hr
            · simp [applyR] at hr
          · simp [applyR] at hr
        · simp [applyR] at hr
      · simp [applyR] at hr
    · simp [applyR] at hr
  · simp [applyR] at hr
end
end Go.AE

namespace Go.AE
set_option linter.unusedSectionVars false
variable [G : Glob]
section
variable {P : Program} {E : Env} {o : Oper} {a : Act} {ca : Go.Act} {φ : Phi} {h h' : Heap} {w : World} {v : AV}

theorem ok_call {c : Call} (hE : E.Typed P) (hop : o.op = .call c) (hw : WRel φ h w) (ha : ARel φ a ca) (hr : applyR h (fCall c E a h) = some (v, h')) : OpOK P o ca φ h w v h' := by
  unfold fCall gCall at hr
  split at hr
  · rename_i xs hxs
    have hx : VRels φ xs (c.args.map ca.eval).toList := by
      rw [Array.toList_map]; exact ha.evals hxs
    split at hr
    · rename_i b hc
      unfold gBuiltin at hr
      split at hr
      · exact ok_len hE hop hc hw hx hr
      · exact ok_cap hE hop hc hw hx hr
      · exact ok_max hop hc hw hx hr
      · exact ok_min hop hc hw hx hr
      · exact ok_append hE hop hc hw hx hr
      · exact ok_clear hE hop hc hw hx hr
      · simp [applyR] at hr
    · unfold gCallV at hr
      split at hr <;> simp [applyR] at hr
    · unfold gInv gInv2 at hr
      split at hr
      · split at hr <;> simp [applyR] at hr
      · simp [applyR] at hr
  · simp [applyR] at hr

/-- Every operation but a call of a function. -/
theorem op_sound (hE : E.Typed P) (hQ : E.Eqs P) (hM : E.Meths P) (hw : WRel φ h w) (ha : ARel φ a ca) (hr : applyR h (opFn o.op E a h) = some (v, h')) : OpOK P o ca φ h w v h' := by
  cases hop : o.op with
  | move x => rw [hop] at hr; exact ok_move (E := E) (.inl hop) hw ha hr
  | assign x => rw [hop] at hr; exact ok_move (E := E) (.inr hop) hw ha hr
  | pick c x y => rw [hop] at hr; exact ok_pick (E := E) hop hw ha hr
  | alloc t => rw [hop] at hr; exact ok_alloc (a := a) hE hop hw hr
  | box t x => rw [hop] at hr; exact ok_box (E := E) hop hw ha hr
  | build t parts => rw [hop] at hr; exact ok_build hE hop hw ha hr
  | buildSlice t len parts => rw [hop] at hr; exact ok_buildSlice hE hop hw ha hr
  | insert t m k x => rw [hop] at hr; exact ok_mapUpdate hE (.inr hop) hw ha hr
  | load t x => rw [hop] at hr; exact ok_load hE hop hw ha hr
  | store t x y => rw [hop] at hr; exact ok_store hE hop hw ha hr
  | nilCheck x => rw [hop] at hr; exact ok_nilCheck hM hop hw ha hr
  | binOp op t x y yt => rw [hop] at hr; exact ok_bin hE hQ hop hw ha hr
  | unOp op t x => rw [hop] at hr; exact ok_un (E := E) hop hw ha hr
  | convert s d x => rw [hop] at hr; exact ok_convert hE hop hw ha hr
  | makeInterface t x => rw [hop] at hr; exact ok_makeInterface hE hop hw ha hr
  | makeFunc fn f c => rw [hop] at hr; exact ok_makeFunc (E := E) hop hw ha hr
  | makeMap t r => rw [hop] at hr; exact ok_makeMap hE hop hw ha hr
  | makeSlice t l c => rw [hop] at hr; exact ok_makeSlice hE hop hw ha hr
  | slice t x lo hi mx => rw [hop] at hr; exact ok_slice hE hop hw ha hr
  | fieldAddr t x f => rw [hop] at hr; exact ok_fieldAddr hE hop hw ha hr
  | field t x f => rw [hop] at hr; exact ok_field hE hop hw ha hr
  | indexAddr t x i => rw [hop] at hr; exact ok_indexAddr hE hop hw ha hr
  | index t x i => rw [hop] at hr; exact ok_index hE hop hw ha hr
  | lookup t x i ok => rw [hop] at hr; exact ok_lookup hE hop hw ha hr
  | mapUpdate t m k x => rw [hop] at hr; exact ok_mapUpdate hE (.inl hop) hw ha hr
  | range t x => rw [hop] at hr; exact ok_range hE hop hw ha hr
  | next x s =>
    rw [hop] at hr
    cases s with
    | false => exact ok_next (E := E) hop hw ha hr
    | true => exact absurd hr (by simp [opFn, fFail, applyR])
  | typeAssert x xt t ok => rw [hop] at hr; exact ok_typeAssert hE hop hw ha hr
  | extract x i => rw [hop] at hr; exact ok_extract (E := E) hop hw ha hr
  | call c => rw [hop] at hr; exact ok_call hE hop hw ha hr
  | defer c =>
    rw [hop] at hr
    have hr : applyR h (fDefer c E a h) = some (v, h') := hr
    unfold fDefer gDefer at hr
    split at hr
    · split at hr
      · unfold toDefer at hr
        split at hr <;> simp [applyR] at hr
      · simp [applyR] at hr
    · simp [applyR] at hr
  | _ => rw [hop] at hr; exact absurd hr (by simp [opFn, fFail, applyR])

/-! calls -/
theorem VRels.arr {xs : List AV} {vs : List Value} (h : VRels φ xs vs) : VRels φ xs vs.toArray.toList := h

theorem callV_some {f : Operand} {xs : List AV} {n : Nat} {args : List AV} (h : gCallV xs (a.eval f) = .call n args) :
    ∃ fi cp, a.eval f = some (.func (.func n) fi cp) ∧ args = fi ++ (xs ++ cp) := by
  unfold gCallV at h
  split at h
  · rename_i f' fi cp he
    cases h
    exact ⟨fi, cp, he, by rw [app_eq, app_eq]⟩
  · cases h

theorem run_method1 {t : Nat} {name : String} {f : Nat} (hM : E.Meths P) (hm : E.meth t name = some f) (v' : Value) (n : Nat) : (method (n + 1) t v' name).run P w = .ok (f, v') w := by
  obtain ⟨i, m, hi, hf, hpath, hfun, e, hu⟩ := hM.meth _ _ _ hm
  simp [method, run_typeInfo' w hi, hf, hpath, follow, hfun, receiverAt, run_underlying' w hu, Place.get]

theorem call_sound (hM : E.Meths P) (ha : ARel φ a ca) (hcall : isCallO o.op = true) {n : Nat} {args : List AV} (hr : opFn o.op E a h = .call n args) :
    ∃ args' : Array Value, VRels φ args args'.toList ∧ (execOp ca.eval o).run P w = (callFunc n args').run P w := by
  cases hop : o.op with
  | call c =>
    rw [hop] at hr
    have hr : fCall c E a h = .call n args := hr
    unfold fCall gCall at hr
    split at hr
    · rename_i xs hxs
      have hx : VRels φ xs (c.args.map ca.eval).toList := by
        rw [Array.toList_map]; exact ha.evals hxs
      split at hr
      · rename_i b hc
        rw [hop] at hcall
        simp [isCallO, isCallV, hc] at hcall
      · rename_i f hc
        obtain ⟨fi, cp, he, rfl⟩ := callV_some hr
        have hf := ha.eval he
        simp only [VRel] at hf
        obtain ⟨fi', cp', hf, h1, h2⟩ := hf
        refine ⟨fi' ++ c.args.map ca.eval ++ cp', ?_, ?_⟩
        · rw [Array.toList_append, Array.toList_append, List.append_assoc]
          exact h1.append (hx.append h2)
        · simp only [execOp, hop, resolve, hc, hf, Deferred.ofValue, Sem.run_bind, Sem.run_pure, Result.andThen_ok, invoke]
      · rename_i r name hc
        unfold gInv at hr
        split at hr
        · rename_i t u hre
          unfold gInv2 at hr
          split at hr
          · rename_i f hm
            cases hr
            have hrv := ha.eval hre
            simp only [VRel] at hrv
            obtain ⟨y, hy, hyr⟩ := hrv
            refine ⟨#[y] ++ c.args.map ca.eval, ?_, ?_⟩
            · rw [Array.toList_append]
              simp only [List.cons_append, List.nil_append, VRels]
              exact ⟨y, _, rfl, hyr, hx⟩
            · have hm1 := fun k => run_method1 (w := w) hM hm y k
              simp only [execOp, hop, resolve, hc, Sem.run_bind, Sem.run_pure, Result.andThen_ok, invoke]
              have e0 : (#[Value.iface t y] ++ Array.map ca.eval c.args)[0]? = some (Value.iface t y) := by
                rw [Array.getElem?_append_left (by show 0 < 1; omega)]; rfl
              have e1 : (#[Value.iface t y] ++ Array.map ca.eval c.args).extract 1 (#[Value.iface t y] ++ Array.map ca.eval c.args).size = c.args.map ca.eval := by
                apply Array.ext'
                simp
                rw [List.take_of_length_le (by simp)]
              rw [hy, e0]
              simp only [e1, callMethod, Sem.run_bind, Made.depth]
              simp [hm1]
          · cases hr
        · cases hr
    · cases hr
  | _ => rw [hop] at hcall; cases hcall

theorem defer_sound (ha : ARel φ a ca) (hdef : isDeferO o.op = true) {n : Nat} {args : List AV} (hr : opFn o.op E a h = .defer n args) :
    ∃ d, DRel φ (n, args) d ∧ (execOp ca.eval o).run P w = .ok (.defer d) w := by
  cases hop : o.op with
  | defer c =>
    rw [hop] at hr
    have hr : fDefer c E a h = .defer n args := hr
    unfold fDefer gDefer at hr
    split at hr
    · rename_i xs hxs
      have hx : VRels φ xs (c.args.map ca.eval).toList := by
        rw [Array.toList_map]; exact ha.evals hxs
      split at hr
      · rename_i f hc
        unfold toDefer at hr
        split at hr
        · rename_i n' args' hcv
          cases hr
          obtain ⟨fi, cp, he, rfl⟩ := callV_some hcv
          have hf := ha.eval he
          simp only [VRel] at hf
          obtain ⟨fi', cp', hf, h1, h2⟩ := hf
          refine ⟨_, ⟨fi' ++ c.args.map ca.eval, cp', rfl, ?_⟩, ?_⟩
          · rw [Array.toList_append, Array.toList_append, List.append_assoc]
            exact h1.append (hx.append h2)
          · simp only [execOp, hop, resolve, hc, hf, Deferred.ofValue, Sem.run_bind, Sem.run_pure, Result.andThen_ok]
        · cases hr
      · cases hr
    · cases hr
  | _ => rw [hop] at hdef; cases hdef
end
end Go.AE

namespace Go.AE
set_option linter.unusedSectionVars false
variable [G : Glob]

/-! ### the evaluator's steps, told as equations -/
section
variable {E : Env} {rec : Rec}

noncomputable def Act.putA (a : Act) (d : Option Nat) (v : AV) : Act := match d with
  | none => a
  | some d => ⟨a.tm.setT 20 d (some v), a.nt, a.df⟩

theorem blt_false {m n : Nat} (h : ¬ m < n) : Nat.blt m n = false := by
  cases hb : Nat.blt m n with
  | false => rfl
  | true => exact absurd ((blt_iff _ _).1 hb) h

theorem putK_none (a : Act) (v : AV) (k : Act → Rs) : putK a v k none = k a := rfl
theorem putK_some (a : Act) (v : AV) (k : Act → Rs) (d : Nat) : putK a v k (some d) = if d < a.nt then k (a.putA (some d) v) else .fail := by
  cases a with | mk tm nt df => ?_
  show Bool.rec (motive := fun _ => Rs) .fail (AV.force v fun v => putK3 tm nt df d v k) (Nat.blt d nt) = _
  by_cases h : d < nt
  · rw [(blt_iff _ _).2 h, if_pos h]
    show AV.force v _ = _
    rw [AV.force_eq]
    unfold putK3
    rw [Tr.setK_eq]
    rfl
  · rw [blt_false h, if_neg h]

theorem putK_ok {a : Act} {v : AV} {k : Act → Rs} {d : Option Nat} (h : putK a v k d ≠ .fail) : putK a v k d = k (a.putA d v) ∧ ∀ d', d = some d' → d' < a.nt := by
  cases d with
  | none => exact ⟨rfl, fun _ h => by cases h⟩
  | some d =>
    rw [putK_some] at h ⊢
    split at h
    · rename_i hlt
      rw [if_pos hlt]
      exact ⟨rfl, fun _ h => by cases h; exact hlt⟩
    · exact absurd rfl h

theorem newK2_eq (t : Tr AO) (nx : Nat) (o : AO) (v : AV) (k : AV → Heap → Rs) : newK2 t nx o v k = if nx < bigN then k v (Heap.new ⟨t, nx⟩ o) else .fail := by
  show Bool.rec (motive := fun _ => Rs) .fail (Tr.setK 40 t nx (some o) fun t => forceNat (Nat.succ nx) fun n => k v ⟨t, n⟩) (Nat.blt nx bigN) = _
  by_cases h : nx < bigN
  · rw [(blt_iff _ _).2 h, if_pos h]
    show Tr.setK 40 t nx (some o) _ = _
    rw [Tr.setK_eq, forceNat_eq]
    rfl
  · rw [blt_false h, if_neg h]

theorem newK_eq (h : Heap) (o : AO) (v : AV) (k : AV → Heap → Rs) : newK h o v k = if h.nx < bigN then k v (h.new o) else .fail := by
  cases h with | mk t nx => ?_
  show AO.force o (fun o => newK2 t nx o v k) = _
  rw [AO.force_eq, newK2_eq]

theorem setK_eq (h : Heap) (b : Nat) (o : AO) (v : AV) (k : AV → Heap → Rs) : setK h b o v k = k v (h.put b o) := by
  cases h with | mk t nx => ?_
  show AO.force o (fun o => Tr.setK 40 t b (some o) fun t => k v ⟨t, nx⟩) = _
  rw [AO.force_eq, Tr.setK_eq]
  rfl

theorem killK_eq (h : Heap) (b : Nat) (o : AO) (v : AV) (k : AV → Heap → Rs) : killK h b o v k = if h.nx < bigN then k v ((h.kill b).new o) else .fail := by
  cases h with | mk t nx => ?_
  show AO.force o (fun o => Tr.setK 40 t b none fun t => newK2 t nx o v k) = _
  rw [AO.force_eq, Tr.setK_eq, newK2_eq]
  rfl

theorem changeK_eq (h : Heap) (k : AV → Heap → Rs) (r : R1) : changeK h k r = match applyR h r with | some (v, h') => k v h' | none => .fail := by
  cases r with
  | val v => rfl
  | new o v => show newK h o v k = _; rw [newK_eq]; simp only [applyR]; split <;> rfl
  | set b o v => show setK h b o v k = _; rw [setK_eq]; rfl
  | kill b o v => show killK h b o v k = _; rw [killK_eq]; simp only [applyR]; split <;> rfl
  | call f xs => rfl
  | defer f xs => rfl
  | fail => rfl

theorem applyR_nx {h h' : Heap} {v : AV} {r : R1} (hr : applyR h r = some (v, h')) : h.nx ≤ h'.nx := by
  cases r <;> simp only [applyR] at hr
  · cases hr; exact Nat.le_refl _
  · split at hr
    · cases hr; exact Nat.le_succ _
    · cases hr
  · cases hr; exact Nat.le_refl _
  · split at hr
    · cases hr; exact Nat.le_succ _
    · cases hr
  all_goals cases hr

noncomputable def argsT (xs : List AV) : Nat → Tr AV → Tr AV := match xs with
  | [] => fun _ t => t
  | v :: xs => fun i t => argsT xs (i + 1) (t.setT 20 i (some v))

/-! numbers of blocks never fall -/
def Rs.nxOk (n : Nat) : Rs → Prop
  | .ok _ _ h => n ≤ h.nx
  | .val _ h => n ≤ h.nx
  | .fail => True
def Rq.nx : Rq → Nat
  | .code _ _ h => h.nx
  | .ops _ _ _ h => h.nx
  | .call _ _ h => h.nx
  | .defers _ h => h.nx
  | .draw _ _ _ _ h => h.nx

theorem Rs.nxOk.mono {m n : Nat} {r : Rs} (hr : r.nxOk n) (h : m ≤ n) : r.nxOk m := by
  cases r <;> simp only [Rs.nxOk] at hr ⊢ <;> first | trivial | exact Nat.le_trans h hr

theorem putK_nx {n : Nat} {a : Act} {v : AV} {k : Act → Rs} {d : Option Nat} (hk : ∀ a, (k a).nxOk n) : (putK a v k d).nxOk n := by
  cases d with
  | none => exact hk a
  | some d => rw [putK_some]; split <;> first | exact hk _ | trivial

theorem changeK_nx {h : Heap} {k : AV → Heap → Rs} {r : R1} (hk : ∀ v h', h.nx ≤ h'.nx → (k v h').nxOk h.nx) : (changeK h k r).nxOk h.nx := by
  rw [changeK_eq]
  split
  · rename_i v h' hr; exact hk v h' (applyR_nx hr)
  · trivial

theorem freeK_eq (h : Heap) (k : AV → Heap → Rs) (r : R1) : freeK h k r = match r with | .val v => if h.nx ≤ bigN then k v h else .fail | .new o v => if h.nx < bigN then k v (h.new o) else .fail | _ => .fail := by
  cases r with
  | new o v => show newK h o v k = _; rw [newK_eq]
  | val v =>
    show Bool.rec (motive := fun _ => Rs) .fail (k v h) (Nat.ble h.nx bigN) = if h.nx ≤ bigN then k v h else .fail
    by_cases hh : h.nx ≤ bigN
    · rw [if_pos hh, show Nat.ble h.nx bigN = true by rw [Nat.ble_eq]; exact hh]
    · rw [if_neg hh]
      cases hb : Nat.ble h.nx bigN with
      | false => rfl
      | true => exact absurd (by rwa [Nat.ble_eq] at hb) hh
  | _ => rfl
theorem readK_eq (h : Heap) (k : AV → Heap → Rs) (r : R1) : readK h k r = match r with | .val v => k v h | _ => .fail := by cases r <;> rfl
theorem freeK_nx {h : Heap} {k : AV → Heap → Rs} {r : R1} (hk : ∀ v h', h.nx ≤ h'.nx → (k v h').nxOk h.nx) : (freeK h k r).nxOk h.nx := by
  rw [freeK_eq]
  split
  · split
    · exact hk _ _ (Nat.le_refl _)
    · trivial
  · split
    · exact hk _ _ (Nat.le_succ _)
    · trivial
  · trivial
theorem readK_nx {h : Heap} {k : AV → Heap → Rs} {r : R1} (hk : ∀ v h', h.nx ≤ h'.nx → (k v h').nxOk h.nx) : (readK h k r).nxOk h.nx := by
  rw [readK_eq]
  split
  · exact hk _ _ (Nat.le_refl _)
  · trivial

/-- what comes of an operation of a list -/
theorem opsX_eq (o : Oper) (l ops : List Oper) (a : Act) (h : Heap) (r : R1) : opsX rec o l ops a h r = match r with
    | .call f xs => opsCB rec o l ops a h f xs (isCallO o.op)
    | .defer f xs => opsDB rec o l ops a h f xs (isDeferO o.op)
    | r => changeK h (opsV rec o l ops a) r := by cases r <;> rfl

def Dr.next (d : Dr) (m : Nat) : Dr := ⟨d.i + 1, Nat.lor d.ms (Nat.shiftLeft m (Nat.mul 128 d.i)), d.acts, d.rd⟩
theorem drV_eq (o : Oper) (l ops : List Oper) (a : Act) (m : Nat) (d : Dr) (v : AV) (h : Heap) : drV rec o l ops a m d v h = putK a v (fun a => rec (.draw l (d.next m) ops a h)) o.dst := by
  cases d with | mk i ms acts rd => ?_
  exact forceNat_eq (β := Rs) (Nat.succ i) (fun j => putK a v (drK rec l ops ⟨j, Nat.lor ms (Nat.shiftLeft m (Nat.mul 128 i)), acts, rd⟩ h) o.dst)
theorem drR_eq (o : Oper) (l ops : List Oper) (a : Act) (m : Nat) (d : Dr) (v : AV) (h : Heap) : drR rec o l ops a m d v h = putK a v (fun a' => rec (.draw l { d.next m with rd := (d.i, m, o, a, v) :: d.rd } ops a' h)) o.dst := by
  cases d with | mk i ms acts rd => ?_
  refine (forceNat_eq (β := Rs) (Nat.succ i) (fun j => AV.force v fun v => putK a v (drK rec l ops ⟨j, Nat.lor ms (Nat.shiftLeft m (Nat.mul 128 i)), acts, (i, m, o, a, v) :: rd⟩ h) o.dst)).trans ?_
  rw [AV.force_eq]
  rfl
theorem drA_eq (o : Oper) (l ops : List Oper) (a : Act) (m : Nat) (d : Dr) (h0 : Heap) (st : Option Nat) (v : AV) (h : Heap) :
    drA rec o l ops a m d h0 st v h = putK a v (fun a => rec (.draw l { d.next m with acts := (d.i, st, h0) :: d.acts } ops a h)) o.dst := by
  cases d with | mk i ms acts rd => ?_
  exact forceNat_eq (β := Rs) (Nat.succ i) (fun j => putK a v (drK rec l ops ⟨j, Nat.lor ms (Nat.shiftLeft m (Nat.mul 128 i)), (i, st, h0) :: acts, rd⟩ h) o.dst)
theorem drS_cons (E : Env) (o : Oper) (l ops : List Oper) (a : Act) (h : Heap) (d : Dr) : drS E rec ops a h d (o :: l) = drW E rec o l ops a h d (maskOf d.ms o.after.toList 0) (wants a ops o.guard) :=
  forceNat_eq (β := Rs) _ (fun m => drW E rec o l ops a h d m (wants a ops o.guard))

variable (hrec : ∀ q, (rec q).nxOk q.nx)
include hrec

theorem opsV_nx (o : Oper) (l ops : List Oper) (a : Act) (v : AV) (h : Heap) : (opsV rec o l ops a v h).nxOk h.nx :=
  putK_nx fun a => hrec (.ops l ops a h)

theorem opsX_nx (o : Oper) (l ops : List Oper) (a : Act) (h : Heap) (r : R1) : (opsX rec o l ops a h r).nxOk h.nx := by
  have hv := fun v h' => opsV_nx hrec o l ops a v h'
  cases r with
  | call f xs =>
    show (opsCB rec o l ops a h f xs (isCallO o.op)).nxOk h.nx
    unfold opsCB
    split
    · have := hrec (.call f xs h)
      unfold opsC
      split
      · rename_i v h' e
        rw [e] at this
        exact (hv v h').mono this
      · trivial
    · trivial
  | defer f xs =>
    show (opsDB rec o l ops a h f xs (isDeferO o.op)).nxOk h.nx
    unfold opsDB
    split
    · unfold opsD
      rw [forceSpine_eq]
      exact opsV_nx hrec o l ops _ unit h
    · trivial
  | val v => exact hv v h
  | new ob v => exact changeK_nx (r := .new ob v) fun v h' hn => (hv v h').mono hn
  | set b ob v => exact changeK_nx (r := .set b ob v) fun v h' hn => (hv v h').mono hn
  | kill b ob v => exact changeK_nx (r := .kill b ob v) fun v h' hn => (hv v h').mono hn
  | fail => trivial

theorem ops_nx (E : Env) (l ops : List Oper) (a : Act) (h : Heap) : (opsS E rec ops a h l).nxOk h.nx := by
  cases l with
  | nil => exact Nat.le_refl _
  | cons o l =>
    show (opsW E rec o l ops a h (wants a ops o.guard)).nxOk h.nx
    cases wants a ops o.guard with
    | none => trivial
    | some b => cases b with
      | false => exact opsV_nx hrec o l ops a unit h
      | true => exact opsX_nx hrec o l ops a h _

theorem drV_nx (o : Oper) (l ops : List Oper) (a : Act) (m : Nat) (d : Dr) (v : AV) (h : Heap) : (drV rec o l ops a m d v h).nxOk h.nx := by
  rw [drV_eq]
  exact putK_nx fun a => hrec (.draw l _ ops a h)
theorem drR_nx (o : Oper) (l ops : List Oper) (a : Act) (m : Nat) (d : Dr) (v : AV) (h : Heap) : (drR rec o l ops a m d v h).nxOk h.nx := by
  rw [drR_eq]
  exact putK_nx fun a => hrec (.draw l _ ops a h)
theorem drA_nx (o : Oper) (l ops : List Oper) (a : Act) (m : Nat) (d : Dr) (h0 : Heap) (st : Option Nat) (v : AV) (h : Heap) : (drA rec o l ops a m d h0 st v h).nxOk h.nx := by
  rw [drA_eq]
  exact putK_nx fun a => hrec (.draw l _ ops a h)

theorem drAct_nx (o : Oper) (l ops : List Oper) (a : Act) (h : Heap) (m : Nat) (d : Dr) (r : R1) : (drAct rec o l ops a h m d r).nxOk h.nx := by
  have hv := fun v h' => drA_nx hrec o l ops a m d h none v h'
  cases r with
  | call f xs =>
    show (drCB rec o l ops a h m d f xs (isCallO o.op)).nxOk h.nx
    unfold drCB
    split
    · have := hrec (.call f xs h)
      unfold drC
      split
      · rename_i v h' e
        rw [e] at this
        exact (hv v h').mono this
      · trivial
    · trivial
  | defer f xs => trivial
  | val v => exact hv v h
  | new ob v => exact changeK_nx (r := .new ob v) fun v h' hn => (hv v h').mono hn
  | set b ob v => exact changeK_nx (r := .set b ob v) fun v h' hn => (hv v h').mono hn
  | kill b ob v => exact changeK_nx (r := .kill b ob v) fun v h' hn => (hv v h').mono hn
  | fail => trivial

theorem dr_nx (E : Env) (l ops : List Oper) (a : Act) (h : Heap) (d : Dr) : (drS E rec ops a h d l).nxOk h.nx := by
  cases l with
  | nil =>
    show (drEnd2 a h _).nxOk h.nx
    unfold drEnd2
    split
    · exact Nat.le_refl _
    · trivial
  | cons o l =>
    rw [drS_cons]
    generalize maskOf d.ms o.after.toList 0 = m
    cases wants a ops o.guard with
    | none => trivial
    | some b => cases b with
      | false => exact drV_nx hrec o l ops a m d unit h
      | true =>
        show (drX E rec o l ops a h d m (kindOf o.op)).nxOk h.nx
        cases kindOf o.op with
        | free => exact freeK_nx fun v h' hn => (drV_nx hrec o l ops a m d v h').mono hn
        | read => exact readK_nx fun v h' hn => (drR_nx hrec o l ops a m d v h').mono hn
        | act =>
          show (drAct2 E rec o l ops a h m d _).nxOk h.nx
          unfold drAct2
          split
          · exact drAct_nx hrec o l ops a h m d _
          · trivial
        | store =>
          show (drStore rec o l ops a h m d _).nxOk h.nx
          unfold drStore
          split
          · unfold drStore2
            split
            · rw [setK_eq]; exact drA_nx hrec o l ops a m d _ _ _ _
            · trivial
          · trivial
        | bad => trivial

theorem code_nx (c : Code) (a : Act) (h : Heap) : (codeFn c rec a h).nxOk h.nx := by
  have hseq : ∀ (y : Code) (r : Rs), r.nxOk h.nx → (seqR rec y r).nxOk h.nx := by
    intro y r hr
    unfold seqR
    split
    · rename_i o a' h'
      unfold seqO
      split
      · exact (hrec (.code y a' h')).mono hr
      · exact hr
      · exact hr
    · trivial
  unfold codeFn
  split
  · exact Nat.le_refl _
  · rename_i ops d
    unfold cRegion
    split
    · exact hrec (.ops _ _ a h)
    · exact hrec (.draw _ _ _ a h)
  · exact hseq _ _ (hrec (.code _ a h))
  · unfold cCond condV
    split
    · exact hrec (.code _ a h)
    · exact hrec (.code _ a h)
    · trivial
  · rename_i id b
    unfold cBlock
    have := hrec (.code b a h)
    unfold blockR
    split
    · rename_i o a' h' e
      rw [e] at this
      unfold blockO
      split
      · exact this
      · unfold blockI; split <;> exact this
      · exact this
    · trivial
  · exact hseq _ _ (hrec (.code _ a h))
  · exact Nat.le_refl _
  · exact Nat.le_refl _
  · trivial

omit hrec in
theorem argsK_eq (xs : List AV) : ∀ (i : Nat) (t : Tr AV) (k : Tr AV → Rs), argsK xs i t k = k (argsT xs i t) := by
  induction xs with
  | nil => intro i t k; rfl
  | cons v xs ih =>
    intro i t k
    show AV.force v (fun v => Tr.setK 20 t i (some v) fun t => argsK xs (Nat.succ i) t k) = _
    rw [AV.force_eq, Tr.setK_eq, ih]
    rfl

omit hrec in
theorem retV_nx (h : Heap) (r : Option (List AV)) : (retV h r).nxOk h.nx := by
  unfold retV
  split <;> first | exact Nat.le_refl _ | trivial

theorem call_nx (E : Env) (f : Nat) (xs : List AV) (h : Heap) : (callN E rec f xs h (E.nat f)).nxOk h.nx := by
  have hnat : ∀ v, (natV h v).nxOk h.nx := by
    intro v
    unfold natV
    split
    · rw [AV.force_eq]; exact Nat.le_refl _
    · trivial
  unfold callN
  split
  · unfold specV
    split
    · rename_i v h' _
      split
      · rename_i hle
        rw [AV.force_eq]
        rw [Nat.ble_eq] at hle
        exact hle
      · trivial
    · trivial
  · unfold callX
    split
    · exact hnat _
    · unfold callC
      split
      · unfold cloneV
        split
        · unfold cloneO
          split
          · rw [newK_eq]
            split
            · exact Nat.le_succ _
            · trivial
          · trivial
        · trivial
      · unfold enterF
        split
        · split
          · unfold enterB
            split
            · rename_i body _
              rw [argsK_eq]
              have := hrec (.code body ⟨argsT xs 0 .nil, ‹Func›.ntmps, []⟩ h)
              unfold retR
              split
              · rename_i o a' h' e
                rw [e] at this
                unfold retO
                split
                · trivial
                · unfold retF
                  split
                  · exact (retV_nx h' _).mono this
                  · rename_i x l _
                    have h2 := hrec (.defers (x :: l) h')
                    unfold retD
                    split
                    · rename_i v h'' e2
                      rw [e2] at h2
                      exact (retV_nx h'' _).mono (Nat.le_trans this h2)
                    · trivial
              · trivial
            · trivial
          · trivial
        · trivial

theorem defers_nx (E : Env) (l : List (Nat × List AV)) (h : Heap) : (defS E rec h l).nxOk h.nx := by
  unfold defS
  split
  · exact Nat.le_refl _
  · rename_i f xs l
    unfold defB
    split
    · exact hrec (.defers l h)
    · unfold defF
      split
      · rename_i fn _
        split
        · unfold defE
          split
          · rename_i body _
            rw [argsK_eq]
            have := hrec (.code body ⟨argsT xs 0 .nil, fn.ntmps, []⟩ h)
            unfold defR
            split
            · rename_i o a h' e
              rw [e] at this
              unfold defO
              split
              · trivial
              · unfold defF2
                split
                · have hv := retV_nx h' (resultsOf E a h' fn.results.toList)
                  unfold defG
                  split
                  · rename_i v h'' e'
                    rw [e'] at hv
                    exact ((hrec (.defers l h'')).mono hv).mono this
                  · trivial
                · trivial
            · trivial
          · trivial
        · trivial
      · trivial
end

theorem ev_nx (E : Env) : ∀ (n : Nat) (q : Rq), (ev E n q).nxOk q.nx := by
  intro n
  induction n with
  | zero => intro q; trivial
  | succ n ih =>
    intro q
    cases q with
    | code c a h => exact code_nx ih c a h
    | ops l ops a h => exact ops_nx ih E l ops a h
    | call f xs h => exact call_nx ih E f xs h
    | defers l h => exact defers_nx ih E l h
    | draw l d ops a h => exact dr_nx ih E l ops a h d
end Go.AE

namespace Go.AE
set_option linter.unusedSectionVars false
variable [G : Glob]

/-! what is asked of a drawn region, once for all -/
def edgesOK (i : Nat) : List Edge → Bool
  | [] => true
  | e :: l => (match bindsAny e.ground with | true => Nat.blt e.on i | false => true) && edgesOK i l
def dstsOf : List Oper → Nat → List (Nat × Nat)
  | [], _ => []
  | o :: l, i => match o.dst with
    | some d => (d, i) :: dstsOf l (i + 1)
    | none => dstsOf l (i + 1)
def freshD (d : Nat) : List (Nat × Nat) → Bool
  | [] => true
  | p :: l => !(Nat.beq p.1 d) && freshD d l
def distOK : List (Nat × Nat) → Bool
  | [] => true
  | p :: l => freshD p.1 l && distOK l
noncomputable def lookAt (ms i d : Nat) : List (Nat × Nat) → Bool
  | [] => true
  | p :: l => (match Nat.beq p.1 d with | true => (maskAt ms i).testBit p.2 || (maskAt ms p.2).testBit i | false => true) && lookAt ms i d l
noncomputable def looksOK (full : List (Nat × Nat)) (ms i : Nat) : List Nat → Bool
  | [] => true
  | d :: l => lookAt ms i d full && looksOK full ms i l
noncomputable def msGo : List Oper → Nat → Nat → Nat
  | [], _, ms => ms
  | o :: l, i, ms => msGo l (i + 1) (Nat.lor ms (Nat.shiftLeft (maskOf ms o.after.toList 0) (Nat.mul 128 i)))
def edgesGo : List Oper → Nat → Bool
  | [], _ => true
  | o :: l, i => edgesOK i o.after.toList && edgesGo l (i + 1)
noncomputable def lookGo (ops : Array Oper) (full : List (Nat × Nat)) (ms : Nat) : List Oper → Nat → Bool
  | [], _ => true
  | o :: l, i => looksOK full ms i (o.looksAt ops) && lookGo ops full ms l (i + 1)
noncomputable def regOK2 (ops : Array Oper) (full : List (Nat × Nat)) : Bool := forceNat (msGo ops.toList 0 0) fun ms => lookGo ops full ms ops.toList 0
noncomputable def regOK (ops : Array Oper) : Bool :=
  Nat.ble ops.size 128 && (distOK (dstsOf ops.toList 0) && (edgesGo ops.toList 0 && regOK2 ops (dstsOf ops.toList 0)))

/-- the drawn regions of a code are in order -/
noncomputable def drawOK : Code → Bool
  | .region _ ops d => (match d with | true => regOK ops | false => true)
  | .seq x y => drawOK x && drawOK y
  | .cond _ x y => drawOK x && drawOK y
  | .block _ b => drawOK b
  | .loop b => drawOK b
  | _ => true
end Go.AE

namespace Go.AE
set_option linter.unusedSectionVars false
variable [G : Glob]

/-! ### frames -/
section
variable {P : Program} {E : Env} {φ : Phi} {h h' : Heap} {w : World}

def xOf : Out → Exit
  | .norm => .normal
  | .exit i => .exit i
  | .ret => .ret

theorem ARel.putA {a : Act} {ca : Go.Act} (ha : ARel φ a ca) {d : Option Nat} {v : AV} {v' : Value} (hv : VRel φ v v') (hd : ∀ d', d = some d' → d' < a.nt) : ARel φ (a.putA d v) (ca.put d v') := by
  cases d with
  | none => exact ha
  | some d =>
    have hlt := hd d rfl
    have hsm := ha.sm
    refine ⟨fun t x e => ?_, ?_, ha.sm, ha.df⟩
    · have e : (a.tm.setT 20 d (some v)).get t = some x := e
      rw [Tr.get_setT 20 _ _ _ _ (by omega)] at e
      show ∃ v'', (ca.tmps.setIfInBounds d v')[t]? = some v'' ∧ _
      rw [Array.getElem?_setIfInBounds]
      by_cases htd : t = d
      · subst htd
        rw [if_pos rfl] at e; cases e
        have : t < ca.tmps.size := by rw [ha.nt]; exact hlt
        exact ⟨v', by rw [if_pos rfl, if_pos this], hv⟩
      · rw [if_neg htd] at e
        obtain ⟨v'', h1, h2⟩ := ha.tm t x e
        exact ⟨v'', by rw [if_neg (fun e => htd e.symm)]; exact h1, h2⟩
    · show (ca.tmps.setIfInBounds d v').size = a.nt
      rw [Array.size_setIfInBounds]; exact ha.nt

theorem wants_rel {a : Act} {ca : Go.Act} (ha : ARel φ a ca) {o : Oper} {ops : Array Oper} {b : Bool} (hw : wants a ops.toList o.guard = some b) : Region.wanted o (yielded ops ca.tmps) = b := by
  unfold Region.wanted
  cases hg : o.guard with
  | none =>
    rw [hg] at hw
    have hw : some true = some b := hw
    cases hw; rfl
  | some p =>
    obtain ⟨j, want⟩ := p
    rw [hg] at hw
    have hw : wants2 a want (listGet ops.toList j) = some b := hw
    rw [listGet_eq] at hw
    unfold wants2 at hw
    split at hw
    · rename_i d _ _ _ _ _ hoj
      have hoj' : (ops[j]?).bind (·.dst) = some d := by
        rw [← Array.getElem?_toList, hoj]; rfl
      unfold wants3 at hw
      split at hw
      · rename_i c hc
        obtain ⟨v', h1, h2⟩ := ha.tm d _ hc
        simp only [VRel] at h2; subst h2
        simp only [yielded, hoj', Option.bind_some, h1]
        cases c <;> cases want <;> simp at hw <;> subst hw <;> rfl
      · rename_i vs hc
        obtain ⟨v', h1, h2⟩ := ha.tm d _ hc
        simp only [VRel] at h2
        obtain ⟨cs, rfl, _⟩ := h2
        cases hw
        simp only [yielded, hoj', Option.bind_some, h1]
        rfl
      · cases hw
    · cases hw

theorem WRel.top' (hw : WRel φ h w) : ∀ b, h.nx ≤ b → h.get b = none := hw.top

/-- what is still free behind a part of the way -/
theorem Fresh.rest {φ1 : Phi} {h1 : Heap} {w1 : World} {m : Nat} (fr : Fresh φ h.nx m) (he : Ext φ h w φ1 h1 w1) : Fresh φ1 h1.nx m := by
  intro b hb hm
  cases e : φ1 b with
  | none => rfl
  | some im =>
    have h0 : φ b = none := fr b (Nat.le_trans he.nx hb) hm
    have := (he.dom b h0 (by rw [e]; simp)).2
    omega
theorem Fresh.part {n m k : Nat} (fr : Fresh φ n k) (h : m ≤ k) : Fresh φ n m := fun b hb hm => fr b hb (Nat.lt_of_lt_of_le hm h)

/-- a call: of a function with a body, or of one that the model answers itself -/
def Does (P : Program) (f : FuncId) (args : Array Value) (w : World) (R : Ending → World → Prop) : Prop :=
  match (callFunc f args).run P w with
  | .ok (.enter g as) w' => Calls P g as w' R
  | .ok (.value v) w' => R (.returned v) w'
  | _ => False

def CallOK (P : Program) (f : Nat) (xs : List AV) (h : Heap) (v : AV) (h' : Heap) : Prop :=
  ∀ (φ : Phi) (w : World) (xs' : Array Value), WRel φ h w → VRels φ xs xs'.toList → Fresh φ h.nx h'.nx →
    Does P f xs' w fun e w' => ∃ v' φ', e = .returned v' ∧ WRel φ' h' w' ∧ Ext φ h w φ' h' w' ∧ VRel φ' v v'

def SCall (P : Program) (r : Rec) : Prop := ∀ f xs h v h', r (.call f xs h) = .val v h' → CallOK P f xs h v h'
def SOps (P : Program) (r : Rec) : Prop := ∀ l ops a h out a' h', r (.ops l ops a h) = .ok out a' h' → out = .norm ∧
  ∀ (φ : Phi) (ca : Go.Act) (w : World), WRel φ h w → ARel φ a ca → Fresh φ h.nx h'.nx → ∀ ops' : Array Oper, ops'.toList = ops → ∀ Q : Exit → Go.Act → World → Prop,
    (∀ φ' ca' w', WRel φ' h' w' → ARel φ' a' ca' → Ext φ h w φ' h' w' → Q .normal ca' w') → wpList P ops' Q l ca w
def SCode (P : Program) (r : Rec) : Prop := ∀ c a h out a' h', drawOK c = true → r (.code c a h) = .ok out a' h' →
  ∀ (φ : Phi) (ca : Go.Act) (w : World), WRel φ h w → ARel φ a ca → Fresh φ h.nx h'.nx → ∀ Q : Exit → Go.Act → World → Prop,
    (∀ φ' ca' w', WRel φ' h' w' → ARel φ' a' ca' → Ext φ h w φ' h' w' → Q (xOf out) ca' w') → c.wp P Q ca w
def SLoop (P : Program) (r : Rec) : Prop := ∀ b a h out a' h', drawOK b = true → r (.code (.loop b) a h) = .ok out a' h' → ∃ k : Nat,
  ∀ (φ : Phi) (ca : Go.Act) (w : World), WRel φ h w → ARel φ a ca → Fresh φ h.nx h'.nx → ∀ Q : Exit → Go.Act → World → Prop,
    (∀ φ' ca' w', WRel φ' h' w' → ARel φ' a' ca' → Ext φ h w φ' h' w' → Q (xOf out) ca' w') → Code.rounds P b Q k ca w
def SDraw (P : Program) (r : Rec) : Prop := ∀ (ops : Array Oper) a h out a' h', regOK ops = true → r (.draw ops.toList ⟨0, 0, [], []⟩ ops.toList a h) = .ok out a' h' → out = .norm ∧
  ∀ (φ : Phi) (ca : Go.Act) (w : World), WRel φ h w → ARel φ a ca → Fresh φ h.nx h'.nx → ∀ Q : Exit → Go.Act → World → Prop,
    (∀ φ' ca' w', WRel φ' h' w' → ARel φ' a' ca' → Ext φ h w φ' h' w' → Q .normal ca' w') → wpAny P .any ops Q ops.size (Array.replicate ops.size false) ca w
def SDef (P : Program) (r : Rec) : Prop := ∀ l h v h', r (.defers l h) = .val v h' →
  ∀ (φ : Phi) (w : World) (fn : Func) (tmps : Array Value) (R : Ending → World → Prop) (ds : List Deferred), WRel φ h w → DRels φ l ds → Fresh φ h.nx h'.nx →
    (∀ φ' w', WRel φ' h' w' → Ext φ h w φ' h' w' → ∃ v, (results fn tmps).run P w' = .ok v w' ∧ R (.returned v) w') → Leaves P fn tmps R ds .returning w

theorem does_wp {o : Oper} {ca : Go.Act} {f : FuncId} {args : Array Value} {R : Ending → World → Prop} {K : Go.Act → World → Prop} {Q : Exit → Go.Act → World → Prop}
    (he : (execOp ca.eval o).run P w = (callFunc f args).run P w) (hd : Does P f args w R) (hR : ∀ e w', R e w' → ∃ v, e = .returned v ∧ K (ca.put o.dst v) w') : o.wp P ca w K Q := by
  unfold Oper.wp
  rw [he]
  unfold Does at hd
  split at hd
  · rename_i g as w' hrun
    rw [hrun, Oper.upon_enter]
    exact Calls.mono hd fun e w'' hr => by
      obtain ⟨v, rfl, hk⟩ := hR e w'' hr
      exact hk
  · rename_i v w' hrun
    rw [hrun, Oper.upon_value]
    obtain ⟨v', hv, hk⟩ := hR _ _ hd
    cases hv
    exact hk
  · exact hd.elim

theorem opok_wp {o : Oper} {ca : Go.Act} {v : AV} {K : Go.Act → World → Prop} {Q : Exit → Go.Act → World → Prop} (hok : OpOK P o ca φ h w v h') (fr : Fresh φ h.nx h'.nx)
    (hK : ∀ v' w' φ', WRel φ' h' w' → Ext φ h w φ' h' w' → VRel φ' v v' → K (ca.put o.dst v') w') : o.wp P ca w K Q := by
  obtain ⟨n, v', w', φ', hrun, hn, h1, h2, h3⟩ := hok fr
  unfold Oper.wp
  rw [hrun]
  rcases hn with rfl | ⟨rfl, rfl⟩
  · rw [Oper.upon_value]; exact hK _ _ _ h1 h2 h3
  · rw [Oper.upon_skip]; exact hK _ _ _ h1 h2 h3

theorem ARel.ext {a : Act} {ca : Go.Act} {φ' : Phi} {w' : World} (ha : ARel φ a ca) (he : Ext φ h w φ' h' w') : ARel φ' a ca := ha.mono he.mono
end
end Go.AE

namespace Go.AE
set_option linter.unusedSectionVars false
variable [G : Glob]
section
variable {P : Program} {E : Env} {rec : Rec}

theorem putK_is {a : Act} {v : AV} {k : Act → Rs} {d : Option Nat} {r : Rs} (h : putK a v k d = r) (hr : r ≠ .fail) : k (a.putA d v) = r ∧ ∀ d', d = some d' → d' < a.nt := by
  subst h
  obtain ⟨h1, h2⟩ := putK_ok hr
  exact ⟨h1.symm, h2⟩

theorem nx_ok {q : Rq} {out : Out} {a : Act} {h : Heap} (hn : ∀ q, (rec q).nxOk q.nx) (e : rec q = .ok out a h) : q.nx ≤ h.nx := by
  have := hn q; rw [e] at this; exact this
theorem nx_val {q : Rq} {v : AV} {h : Heap} (hn : ∀ q, (rec q).nxOk q.nx) (e : rec q = .val v h) : q.nx ≤ h.nx := by
  have := hn q; rw [e] at this; exact this

theorem sops_step (hE : E.Typed P) (hQ : E.Eqs P) (hM : E.Meths P) (hn : ∀ q, (rec q).nxOk q.nx) (hc : SCall P rec) (ho : SOps P rec) :
    ∀ l ops a h out a' h', opsS E rec ops a h l = .ok out a' h' → out = .norm ∧
      ∀ (φ : Phi) (ca : Go.Act) (w : World), WRel φ h w → ARel φ a ca → Fresh φ h.nx h'.nx → ∀ ops' : Array Oper, ops'.toList = ops → ∀ Q : Exit → Go.Act → World → Prop,
        (∀ φ' ca' w', WRel φ' h' w' → ARel φ' a' ca' → Ext φ h w φ' h' w' → Q .normal ca' w') → wpList P ops' Q l ca w := by
  intro l ops a h out a' h' he
  cases l with
  | nil =>
    have he : Rs.ok .norm a h = .ok out a' h' := he
    cases he
    exact ⟨rfl, fun φ ca w hw ha fr ops' _ Q hq => hq φ ca w hw ha (Ext.refl φ h w)⟩
  | cons o l =>
    have he : opsW E rec o l ops a h (wants a ops o.guard) = .ok out a' h' := he
    -- what comes behind the operation
    have tail : ∀ (a1 : Act) (v : AV) (h1 : Heap), opsV rec o l ops a1 v h1 = .ok out a' h' → out = .norm ∧ (∀ d', o.dst = some d' → d' < a1.nt) ∧ h1.nx ≤ h'.nx ∧
        ∀ (φ : Phi) (ca : Go.Act) (w : World) (φ1 : Phi) (w1 : World) (v' : Value) (ca1 : Go.Act), WRel φ h w → Fresh φ h.nx h'.nx → Ext φ h w φ1 h1 w1 → WRel φ1 h1 w1 → ARel φ1 (a1.putA o.dst v) ca1 →
          ∀ ops' : Array Oper, ops'.toList = ops → ∀ Q : Exit → Go.Act → World → Prop, (∀ φ' ca' w', WRel φ' h' w' → ARel φ' a' ca' → Ext φ h w φ' h' w' → Q .normal ca' w') → wpList P ops' Q l ca1 w1 := by
      intro a1 v h1 hv
      obtain ⟨hv, hd⟩ := putK_is hv (by simp)
      have hnx := nx_ok hn hv
      obtain ⟨h1', h2'⟩ := ho _ _ _ _ _ _ _ hv
      refine ⟨h1', hd, hnx, fun φ ca w φ1 w1 v' ca1 hw fr hext hw1 ha1 ops' hops Q hq => ?_⟩
      refine h2' φ1 ca1 w1 hw1 ha1 (fr.rest hext) ops' hops Q fun φ' ca' w' a b c => hq φ' ca' w' a b ?_
      exact hext.trans c hw1.top (fr.part hnx)
    cases hwn : wants a ops o.guard with
    | none => rw [hwn] at he; cases he
    | some b => cases b with
      | false =>
        rw [hwn] at he
        have he : opsV rec o l ops a unit h = .ok out a' h' := he
        obtain ⟨h1, hd, _, h2⟩ := tail _ _ _ he
        refine ⟨h1, fun φ ca w hw ha fr ops' hops Q hq => ?_⟩
        subst hops
        unfold wpList
        rw [if_neg (by rw [wants_rel ha hwn]; simp)]
        exact h2 φ ca w φ w undef _ hw fr (Ext.refl φ h w) hw (ha.putA (unit_rel φ) hd) ops' rfl Q hq
      | true =>
        rw [hwn] at he
        have he : opsX rec o l ops a h (opFn o.op E a h) = .ok out a' h' := he
        rw [opsX_eq] at he
        split at he
        · -- a call
          rename_i f xs hr
          unfold opsCB at he
          split at he
          · rename_i hcall
            unfold opsC at he
            split at he
            · rename_i v h1 hv
              obtain ⟨h1', hd, hnx, h2⟩ := tail _ _ _ he
              have hcv := hc _ _ _ _ _ hv
              refine ⟨h1', fun φ ca w hw ha fr ops' hops Q hq => ?_⟩
              have hwr := wants_rel (ops := ops') ha (by rw [hops]; exact hwn)
              unfold wpList
              rw [if_pos hwr]
              refine .inl ?_
              obtain ⟨args', hargs, hrun⟩ := call_sound (w := w) hM ha hcall hr
              refine does_wp hrun (hcv φ w args' hw hargs (fr.part hnx)) fun e w' ⟨v', φ', he', hw', hext, hvr⟩ => ⟨v', he', ?_⟩
              exact h2 φ ca w φ' w' v' _ hw fr hext hw' ((ha.ext hext).putA hvr hd) ops' hops Q hq
            · cases he
          · cases he
        · -- a deferred call
          rename_i f xs hr
          unfold opsDB at he
          split at he
          · rename_i hdef
            unfold opsD at he
            rw [forceSpine_eq] at he
            obtain ⟨h1', hd, hnx, h2⟩ := tail _ _ _ he
            refine ⟨h1', fun φ ca w hw ha fr ops' hops Q hq => ?_⟩
            have hwr := wants_rel (ops := ops') ha (by rw [hops]; exact hwn)
            unfold wpList
            rw [if_pos hwr]
            refine .inl ?_
            obtain ⟨d, hdr, hrun⟩ := defer_sound (w := w) (P := P) ha hdef hr
            unfold Oper.wp
            rw [hrun, Oper.upon_defer]
            have ha2 : ARel φ ⟨a.tm, a.nt, (f, xs) :: a.df⟩ { ca with defers := d :: ca.defers } := ⟨ha.tm, ha.nt, ha.sm, ⟨d, ca.defers, rfl, hdr, ha.df⟩⟩
            exact h2 φ ca w φ w undef _ hw fr (Ext.refl φ h w) hw (ha2.putA (unit_rel φ) hd) ops' hops Q hq
          · cases he
        · -- else
          rename_i r _ _
          rw [changeK_eq] at he
          split at he
          · rename_i v h1 hr
            obtain ⟨h1', hd, hnx, h2⟩ := tail _ _ _ he
            refine ⟨h1', fun φ ca w hw ha fr ops' hops Q hq => ?_⟩
            have hwr := wants_rel (ops := ops') ha (by rw [hops]; exact hwn)
            unfold wpList
            rw [if_pos hwr]
            refine .inl ?_
            refine opok_wp (op_sound hE hQ hM hw ha hr) (fr.part hnx) fun v' w' φ' hw' hext hvr => ?_
            exact h2 φ ca w φ' w' v' _ hw fr hext hw' ((ha.ext hext).putA hvr hd) ops' hops Q hq
          · cases he

theorem Ext.after {φ φ' : Phi} {h h' : Heap} {w w0 w' : World} (hh : w0.heap = w.heap) (h1 : w0.os = w.os) (h2 : w0.output = w.output) (hw : WRel φ h w) (he : Ext φ h w0 φ' h' w') : Ext φ h w φ' h' w' :=
  (Ext.of_heap φ h hh h1 h2).trans he hw.top fun b h1 h2 => by omega

theorem seq_some {y : Code} {r : Rs} {out : Out} {a' : Act} {h' : Heap} (he : seqR rec y r = .ok out a' h') :
    ∃ o1 a1 h1, r = .ok o1 a1 h1 ∧ ((o1 = .norm ∧ rec (.code y a1 h1) = .ok out a' h') ∨ (o1 ≠ .norm ∧ out = o1 ∧ a' = a1 ∧ h' = h1)) := by
  unfold seqR at he
  split at he
  · rename_i o1 a1 h1
    refine ⟨o1, a1, h1, rfl, ?_⟩
    unfold seqO at he
    split at he
    · exact .inl ⟨rfl, he⟩
    · cases he; exact .inr ⟨by simp, rfl, rfl, rfl⟩
    · cases he; exact .inr ⟨by simp, rfl, rfl, rfl⟩
  · cases he

theorem then_other {K : Go.Act → World → Prop} {Q : Exit → Go.Act → World → Prop} {o : Out} {ca : Go.Act} {w : World} (ho : o ≠ .norm) (h : Q (xOf o) ca w) : Exit.then K Q (xOf o) ca w := by
  cases o with
  | norm => exact absurd rfl ho
  | exit i => exact h
  | ret => exact h

theorem sloop_step (hn : ∀ q, (rec q).nxOk q.nx) (hs : SCode P rec) (hl : SLoop P rec) : ∀ b a h out a' h', drawOK b = true → cLoop b rec a h = .ok out a' h' → ∃ k : Nat,
    ∀ (φ : Phi) (ca : Go.Act) (w : World), WRel φ h w → ARel φ a ca → Fresh φ h.nx h'.nx → ∀ Q : Exit → Go.Act → World → Prop,
      (∀ φ' ca' w', WRel φ' h' w' → ARel φ' a' ca' → Ext φ h w φ' h' w' → Q (xOf out) ca' w') → Code.rounds P b Q k ca w := by
  intro b a h out a' h' hdk he
  obtain ⟨o1, a1, h1, hr, hcase⟩ := seq_some he
  have hb := hs _ _ _ _ _ _ hdk hr
  rcases hcase with ⟨rfl, hy⟩ | ⟨ho, rfl, rfl, rfl⟩
  · obtain ⟨k, hk⟩ := hl _ _ _ _ _ _ hdk hy
    have hnx := nx_ok hn hy
    refine ⟨k + 1, fun φ ca w hw ha fr Q hq => ?_⟩
    rw [rounds_succ]
    refine hb φ ca w hw ha (fr.part hnx) _ fun φ1 ca1 w1 hw1 ha1 hext => ?_
    show Code.rounds P b Q k ca1 w1
    refine hk φ1 ca1 w1 hw1 ha1 (fr.rest hext) Q fun φ' ca' w' x y z => hq φ' ca' w' x y ?_
    exact hext.trans z hw1.top (fr.part hnx)
  · refine ⟨1, fun φ ca w hw ha fr Q hq => ?_⟩
    rw [rounds_succ]
    exact hb φ ca w hw ha fr _ fun φ1 ca1 w1 hw1 ha1 hext => then_other ho (hq φ1 ca1 w1 hw1 ha1 hext)

theorem scode_step (hmix : P.follows .mixedOrders = true) (hn : ∀ q, (rec q).nxOk q.nx) (ho : SOps P rec) (hdr : SDraw P rec) (hs : SCode P rec) (hl : SLoop P rec) :
    ∀ c a h out a' h', drawOK c = true → codeFn c rec a h = .ok out a' h' →
      ∀ (φ : Phi) (ca : Go.Act) (w : World), WRel φ h w → ARel φ a ca → Fresh φ h.nx h'.nx → ∀ Q : Exit → Go.Act → World → Prop,
        (∀ φ' ca' w', WRel φ' h' w' → ARel φ' a' ca' → Ext φ h w φ' h' w' → Q (xOf out) ca' w') → c.wp P Q ca w := by
  intro c a h out a' h' hdk he φ ca w hw ha fr Q hq
  unfold codeFn at he
  split at he
  · have he : Rs.ok .norm a h = .ok out a' h' := he
    cases he
    exact wp_skip (hq φ ca w hw ha (Ext.refl φ h w))
  · rename_i id ops d
    unfold cRegion at he
    split at he
    · obtain ⟨rfl, h2⟩ := ho _ _ _ _ _ _ _ he
      exact wp_region_list (h2 φ ca w hw ha fr ops rfl Q hq)
    · obtain ⟨rfl, h2⟩ := hdr _ _ _ _ _ _ hdk he
      refine wp_region_any hmix ?_
      exact h2 φ ca { w with drawn := w.drawn + 1 } (WRel.of_heap (w := w) (w' := { w with drawn := w.drawn + 1 }) rfl hw) ha fr Q fun φ' ca' w' x y z => hq φ' ca' w' x y (Ext.after (w := w) (w0 := { w with drawn := w.drawn + 1 }) rfl rfl rfl hw z)
  · rename_i x y
    have hdk : (drawOK x && drawOK y) = true := hdk
    simp only [Bool.and_eq_true] at hdk
    obtain ⟨o1, a1, h1, hr, hcase⟩ := seq_some he
    have hx := hs _ _ _ _ _ _ hdk.1 hr
    rcases hcase with ⟨rfl, hy⟩ | ⟨hno, rfl, rfl, rfl⟩
    · have hnx := nx_ok hn hy
      refine wp_seq (hx φ ca w hw ha (fr.part hnx) _ fun φ1 ca1 w1 hw1 ha1 hext => ?_)
      show y.wp P Q ca1 w1
      refine hs _ _ _ _ _ _ hdk.2 hy φ1 ca1 w1 hw1 ha1 (fr.rest hext) Q fun φ' ca' w' x y z => hq φ' ca' w' x y ?_
      exact hext.trans z hw1.top (fr.part hnx)
    · exact wp_seq (hx φ ca w hw ha fr _ fun φ1 ca1 w1 hw1 ha1 hext => then_other hno (hq φ1 ca1 w1 hw1 ha1 hext))
  · rename_i c x y
    have hdk : (drawOK x && drawOK y) = true := hdk
    simp only [Bool.and_eq_true] at hdk
    unfold cCond condV at he
    split at he
    · rename_i hc
      have hv := ha.eval hc
      simp only [VRel] at hv
      exact wp_cond_true hv (hs _ _ _ _ _ _ hdk.1 he φ ca w hw ha fr Q hq)
    · rename_i hc
      have hv := ha.eval hc
      simp only [VRel] at hv
      exact wp_cond_false hv (hs _ _ _ _ _ _ hdk.2 he φ ca w hw ha fr Q hq)
    · cases he
  · rename_i id b
    have hdb : drawOK b = true := hdk
    unfold cBlock blockR at he
    split at he
    · rename_i o1 a1 h1 hr
      refine wp_block ?_
      unfold blockO at he
      split at he
      · cases he
        exact hs _ _ _ _ _ _ hdb hr φ ca w hw ha fr _ fun φ1 ca1 w1 hw1 ha1 hext => hq φ1 ca1 w1 hw1 ha1 hext
      · rename_i i
        unfold blockI at he
        split at he
        · rename_i hid
          have hid := Nat.eq_of_beq_eq_true hid; subst hid
          cases he
          refine hs _ _ _ _ _ _ hdb hr φ ca w hw ha fr _ fun φ1 ca1 w1 hw1 ha1 hext => ?_
          simp only [xOf, Exit.inBlock, if_true]
          exact hq φ1 ca1 w1 hw1 ha1 hext
        · rename_i hid
          have hne : i ≠ id := by intro e; subst e; rw [Nat.beq_refl] at hid; cases hid
          cases he
          refine hs _ _ _ _ _ _ hdb hr φ ca w hw ha fr _ fun φ1 ca1 w1 hw1 ha1 hext => ?_
          simp only [xOf, Exit.inBlock, if_neg hne]
          exact hq φ1 ca1 w1 hw1 ha1 hext
      · cases he
        exact hs _ _ _ _ _ _ hdb hr φ ca w hw ha fr _ fun φ1 ca1 w1 hw1 ha1 hext => hq φ1 ca1 w1 hw1 ha1 hext
    · cases he
  · rename_i b
    have hdk : drawOK b = true := hdk
    obtain ⟨k, hk⟩ := sloop_step hn hs hl _ _ _ _ _ _ hdk he
    exact wp_loop_rounds k (hk φ ca w hw ha fr Q hq)
  · rename_i id
    have he : Rs.ok (.exit id) a h = .ok out a' h' := he
    cases he
    exact wp_exit (hq φ ca w hw ha (Ext.refl φ h w))
  · have he : Rs.ok .ret a h = .ok out a' h' := he
    cases he
    exact wp_ret (hq φ ca w hw ha (Ext.refl φ h w))
  · cases he
end
end Go.AE

namespace Go.AE
set_option linter.unusedSectionVars false
variable [G : Glob]
section
variable {P : Program} {E : Env} {rec : Rec} {φ : Phi} {h h' : Heap} {w w' : World}

/-- every block stays what it is -/
def Keeps (w w' : World) : Prop := (∀ (c : Nat) (ob : Obj), w.heap[c]? = some ob → w'.heap[c]? = some ob) ∧ Quiet w w'

theorem Keeps.refl (w : World) : Keeps w w := ⟨fun _ _ e => e, Quiet.refl w⟩
theorem Keeps.trans {w1 w2 w3 : World} (a : Keeps w1 w2) (b : Keeps w2 w3) : Keeps w1 w3 := ⟨fun c ob e => b.1 c ob (a.1 c ob e), a.2.trans b.2⟩
theorem Keeps.size (hk : Keeps w w') : w.heap.size ≤ w'.heap.size := by
  apply Classical.byContradiction
  intro hh
  have hlt : w'.heap.size < w.heap.size := by omega
  have := hk.1 w'.heap.size _ (Array.getElem?_eq_getElem hlt)
  simp at this
theorem WRel.keeps (hw : WRel φ h w) (hk : Keeps w w') : WRel φ h w' :=
  ⟨fun b o im a c => let ⟨o', h1, h2⟩ := hw.live b o im a c; ⟨o', hk.1 _ _ h1, h2⟩, fun b im a => let ⟨o', h1, h2⟩ := hw.dom b im a; ⟨o', hk.1 _ _ h1, h2⟩, hw.inj, hw.top, hw.small, G.stay _ _ hw.base hk.size (fun c ob _ h => hk.1 c ob h), hw.glob⟩
theorem Ext.keeps (φ : Phi) (h : Heap) (hk : Keeps w w') : Ext φ h w φ h w' :=
  ⟨fun _ _ e => e, fun _ e e' => absurd e e', Nat.le_refl _, fun _ _ e => e, fun _ _ _ => rfl, fun c ob e _ => hk.1 c ob e, hk.size, (fun _ _ e e' => by rw [e] at e'; cases e'), hk.2⟩

/-- what is taken of functions on trust of other lemmas -/
structure Env.Calls (E : Env) (P : Program) : Prop where
  fn : ∀ f fn, E.fn f = some fn → P.funcs[f]? = some fn ∧ (fn.name == "runtime.NumGoroutine") = false ∧ ∀ body, fn.body = some body → drawOK body = true
  nat : ∀ f g xs h v h', E.nat f = some g → g xs h = some (v, h') → CallOK P f xs h v h'
  ext : ∀ f g xs v, E.ext f = some g → g xs = some v → ∀ (φ : Phi) (w : World) (xs' : Array Value), VRels φ xs xs'.toList →
    Does P f xs' w fun e w' => ∃ v', e = .returned v' ∧ Keeps w w' ∧ VRel φ v v'
  clone : ∀ f, E.clone f = true → ∀ (t r : Nat) (es : Array MapEntry) (c : Nat) (w : World), w.heap[r]? = some (.map es c) →
    (callFunc f #[.iface t (.map (some r))]).run P w = .ok (.value (.iface t (.map (some w.heap.size)))) { w with heap := w.heap.push (.map es c) }
  dnat : ∀ f, E.dnat f = true → ∀ (args : Array Value) (w : World), (callFunc f args).run P w = .ok (.enter f args) w ∧
    CallsD P f args .returning w fun e u w' => (∃ v, e = .returned v) ∧ u = .returning ∧ Keeps w w'

theorem Does.mono {f : FuncId} {args : Array Value} {R R' : Ending → World → Prop} (hd : Does P f args w R) (hr : ∀ e w', R e w' → R' e w') : Does P f args w R' := by
  unfold Does at hd ⊢
  split at hd
  · exact Go.Calls.mono hd fun e w'' h => hr e w'' h
  · exact hr _ _ hd
  · exact hd.elim

theorem callFunc_enter {f : FuncId} {fn : Func} {body : Code} {args : Array Value} (hf : P.funcs[f]? = some fn) (hn : (fn.name == "runtime.NumGoroutine") = false) (hb : fn.body = some body) :
    (callFunc f args).run P w = .ok (.enter f args) w := by
  simp [callFunc, program, Sem.run, hf, hb]
  simpa using hn

theorem does_enter {f : FuncId} {fn : Func} {body : Code} {args : Array Value} {R : Ending → World → Prop} (hf : P.funcs[f]? = some fn) (hn : (fn.name == "runtime.NumGoroutine") = false) (hb : fn.body = some body)
    (hc : Go.Calls P f args w R) : Does P f args w R := by
  have : (callFunc f args).run P w = .ok (.enter f args) w := by
    simp [callFunc, program, Sem.run, hf, hb]
    simpa using hn
  unfold Does
  rw [this]
  exact hc

/-! results -/
theorem argsT_get : ∀ (xs : List AV) (i : Nat) (t : Tr AV) (m : Nat), i + xs.length ≤ 500000 → (argsT xs i t).get m = if i ≤ m ∧ m < i + xs.length then xs[m - i]? else t.get m
  | [], i, t, m, _ => by
    show t.get m = _
    rw [if_neg (by simp)]
  | v :: xs, i, t, m, hl => by
    simp only [List.length_cons] at hl
    show (argsT xs (i + 1) (t.setT 20 i (some v))).get m = _
    rw [argsT_get xs (i + 1) _ m (by omega), Tr.get_setT 20 _ _ _ _ (by omega)]
    by_cases h1 : m = i
    · subst h1
      rw [if_neg (by omega), if_pos rfl, if_pos (by simp)]
      simp
    · rw [if_neg h1]
      by_cases h2 : i + 1 ≤ m ∧ m < i + 1 + xs.length
      · rw [if_pos h2, if_pos (by simp only [List.length_cons]; omega)]
        have : m - i = m - (i + 1) + 1 := by omega
        rw [this, List.getElem?_cons_succ]
      · rw [if_neg h2, if_neg (by simp only [List.length_cons]; omega)]

theorem arel_enter {xs : List AV} {xs' : Array Value} {n : Nat} (hx : VRels φ xs xs'.toList) (h1 : xs.length ≤ n) (h2 : n ≤ 500000) :
    ARel φ ⟨argsT xs 0 .nil, n, []⟩ { tmps := xs' ++ Array.replicate (n - xs'.size) undef, defers := [] } := by
  have hl := hx.length
  simp only [Array.length_toList] at hl
  refine ⟨fun t v e => ?_, ?_, h2, rfl⟩
  · have e : (argsT xs 0 .nil).get t = some v := e
    rw [argsT_get xs 0 .nil t (by omega)] at e
    split at e
    · rename_i hc
      obtain ⟨v', g1, g2⟩ := hx.get _ e
      refine ⟨v', ?_, g2⟩
      show (xs' ++ _)[t]? = some v'
      rw [Array.getElem?_append_left (by omega)]
      simpa using g1
    · cases e
  · show (xs' ++ Array.replicate (n - xs'.size) undef).size = n
    simp; omega

def resVal (tmps : Array Value) : ResultVar → Sem Value
  | .tmp t => pure (tmps.getD t undef)
  | .cell a t => do loadVar t (← asAddr (tmps.getD a undef))

theorem res_run (hE : E.Typed P) {a : Act} {ca : Go.Act} (hw : WRel φ h w) (ha : ARel φ a ca) : ∀ (rs : List ResultVar) (vs : List AV), resultsOf E a h rs = some vs →
    ∃ vs', (rs.mapM (resVal ca.tmps)).run P w = .ok vs' w ∧ VRels φ vs vs'
  | [], vs, hr => by
    simp only [resultsOf, Option.some.injEq] at hr; subst hr
    exact ⟨[], by simp [List.mapM_nil], VRels.nil φ⟩
  | .tmp t :: rs, vs, hr => by
    simp only [resultsOf] at hr
    unfold oCons at hr
    split at hr
    · rename_i v r hv hrr
      cases hr
      obtain ⟨vs', h1, h2⟩ := res_run hE hw ha rs r hrr
      obtain ⟨v', g1, g2⟩ := ha.tm t v hv
      refine ⟨v' :: vs', ?_, by simp only [VRels]; exact ⟨_, _, rfl, g2, h2⟩⟩
      rw [List.mapM_cons]
      simp only [resVal, Sem.run_bind, Sem.run_pure, Result.andThen_ok, h1, Array.getD_eq_getD_getElem?, g1, Option.getD_some]
    · cases hr
  | .cell t ty :: rs, vs, hr => by
    simp only [resultsOf] at hr
    unfold resCell at hr
    split at hr
    · rename_i b off r hv hrr
      obtain ⟨vs', h1, h2⟩ := res_run hE hw ha rs r hrr
      obtain ⟨p, g1, g2⟩ := ha.tm t _ hv
      simp only [VRel] at g2
      obtain ⟨im, hb, rfl⟩ := g2
      have fin : ∀ (y : Ty) (x : AV), E.ty ty = some y → (match y.agg with | true => oAgg (takeCells h b off y.size) | false => oOne (takeCells h b off 1)) = some x → vs = x :: r →
          ∃ vs', ((ResultVar.cell t ty :: rs).mapM (resVal ca.tmps)).run P w = .ok vs' w ∧ VRels φ vs vs' := by
        intro y x hy hx hvs
        subst hvs
        obtain ⟨v', l1, l2⟩ := run_loadVar_at (P := P) (tyOf_some (hE.ty _ _ hy)) hw hb hx
        refine ⟨v' :: vs', ?_, by simp only [VRels]; exact ⟨_, _, rfl, l2, h2⟩⟩
        rw [List.mapM_cons]
        simp only [resVal, Sem.run_bind, Sem.run_pure, Result.andThen_ok, h1, Array.getD_eq_getD_getElem?, g1, Option.getD_some, asAddr, l1]
      unfold resCell2 at hr
      split at hr
      · rename_i hy
        unfold resCell3 at hr
        split at hr
        · rename_i x hx; cases hr; exact fin _ x hy hx rfl
        · cases hr
      · rename_i hy
        unfold resCell3 at hr
        split at hr
        · rename_i x hx; cases hr; exact fin _ x hy hx rfl
        · cases hr
      · cases hr
    · cases hr

theorem results_run (hE : E.Typed P) {a : Act} {ca : Go.Act} {fn : Func} {v : AV} (hw : WRel φ h w) (ha : ARel φ a ca) (hr : retV h (resultsOf E a h fn.results.toList) = .val v h') :
    h' = h ∧ ∃ v', (results fn ca.tmps).run P w = .ok v' w ∧ VRel φ v v' := by
  have start : ∀ vs' : List Value, (fn.results.toList.mapM (resVal ca.tmps)).run P w = .ok vs' w → (results fn ca.tmps).run P w = .ok (if h : vs'.toArray.size = 1 then vs'.toArray[0] else .tuple vs'.toArray) w := by
    intro vs' hm
    have : (fn.results.mapM (resVal ca.tmps)).run P w = .ok vs'.toArray w := by
      rw [Array.mapM_eq_mapM_toList, Sem.run_map, hm]; rfl
    show (fn.results.mapM (resVal ca.tmps) >>= fun vs => pure (if h : vs.size = 1 then vs[0] else .tuple vs) : Sem Value).run P w = _
    rw [Sem.run_bind, this]
    rfl
  unfold retV at hr
  split at hr
  · rename_i x hres
    cases hr
    obtain ⟨vs', h1, h2⟩ := res_run hE hw ha _ _ hres
    simp only [VRels] at h2
    obtain ⟨y, ys, rfl, hy, rfl⟩ := h2
    exact ⟨rfl, y, by rw [start _ h1]; rfl, hy⟩
  · rename_i vs hne hres
    cases hr
    obtain ⟨vs', h1, h2⟩ := res_run hE hw ha _ _ hres
    have hl := h2.length
    refine ⟨rfl, .tuple vs'.toArray, ?_, by simp only [VRel]; exact ⟨_, rfl, h2⟩⟩
    rw [start _ h1]
    rw [dif_neg]
    intro hs
    simp only [List.size_toArray] at hs
    obtain ⟨x, hx⟩ := List.length_eq_one_iff.1 (hl.symm.trans hs)
    subst hx
    exact hne _ rfl
  · cases hr
end
end Go.AE

namespace Go.AE
set_option linter.unusedSectionVars false
variable [G : Glob]
section
variable {P : Program} {E : Env} {rec : Rec} {φ : Phi} {h h' : Heap} {w w' : World}

theorem sdef_step (hE : E.Typed P) (hC : E.Calls P) (hn : ∀ q, (rec q).nxOk q.nx) (hs : SCode P rec) (hd : SDef P rec) : ∀ l h v h', defS E rec h l = .val v h' →
    ∀ (φ : Phi) (w : World) (fn : Func) (tmps : Array Value) (R : Ending → World → Prop) (ds : List Deferred), WRel φ h w → DRels φ l ds → Fresh φ h.nx h'.nx →
      (∀ φ' w', WRel φ' h' w' → Ext φ h w φ' h' w' → ∃ v, (results fn tmps).run P w' = .ok v w' ∧ R (.returned v) w') → Leaves P fn tmps R ds .returning w := by
  intro l h v h' he φ w fn tmps R ds hw hds fr hk
  unfold defS at he
  split at he
  · cases he
    simp only [DRels] at hds; subst hds
    exact hk φ w hw (Ext.refl φ h w)
  · rename_i f xs l
    obtain ⟨d, ds, rfl, ⟨args, cap, rfl, hx⟩, hds⟩ := hds
    unfold defB at he
    split at he
    · rename_i hf
      obtain ⟨h1, h2⟩ := hC.dnat f hf (args ++ cap) w
      refine ⟨by simp, .func f, cap, f, args ++ cap, rfl, h1, ?_⟩
      refine CallsD.mono h2 fun e u' w' ⟨⟨v', hv⟩, hu, hkp⟩ => ?_
      subst hv; subst hu
      show Leaves P fn tmps R ds (settle .returning) w'
      refine hd _ _ _ _ he φ w' fn tmps R ds (hw.keeps hkp) hds fr fun φ' w'' a b => hk φ' w'' a ?_
      exact (Ext.keeps φ h hkp).trans b hw.top fun b h1 h2 => by omega
    · unfold defF at he
      split at he
      · rename_i gn hgn
        split at he
        · rename_i hle
          simp only [Bool.and_eq_true, Nat.ble_eq, lenN_eq] at hle
          unfold defE at he
          split at he
          · rename_i body hbody
            rw [argsK_eq] at he
            obtain ⟨hpf, hnm, hdk⟩ := hC.fn f gn hgn
            unfold defR at he
            split at he
            · rename_i o a1 h1 hcode
              have hcs := hs _ _ _ _ _ _ (hdk _ hbody) hcode
              have ha0 := arel_enter (φ := φ) hx hle.1 hle.2
              have key : a1.df = [] → ∀ u h2, retV h1 (resultsOf E a1 h1 gn.results.toList) = .val u h2 → rec (.defers l h2) = .val v h' → (o = .norm ∨ o = .ret) →
                  Leaves P fn tmps R ({ target := .fn (.func f) cap, args := args } :: ds) .returning w := by
                intro hdf u h2 hret hrec ho
                have hh : h2 = h1 := by
                  unfold retV at hret
                  split at hret <;> first | (cases hret; rfl) | cases hret
                subst hh
                have hnx := nx_val hn hrec
                refine ⟨by simp, .func f, cap, f, args ++ cap, rfl, callFunc_enter hpf hnm hbody, ?_⟩
                refine CallsD.mono (callsD_of_wp (R := fun e w' => (∃ v, e = .returned v) ∧ ∃ φ', WRel φ' h2 w' ∧ Ext φ h w φ' h2 w') hpf hbody ?_) fun e u' w' ⟨hu, ⟨v', hv⟩, φ', hw', hext⟩ => ?_
                · refine hcs φ _ w hw ha0 (fr.part hnx) _ fun φ' ca' w' hw' ha' hext => ?_
                  have hd0 : ca'.defers = [] := by
                    have := ha'.df
                    rw [hdf] at this
                    exact this
                  obtain ⟨_, v', hv1, hv2⟩ := results_run hE hw' ha' hret
                  rcases ho with rfl | rfl
                  · exact ⟨hd0, v', hv1, ⟨v', rfl⟩, φ', hw', hext⟩
                  · exact ⟨hd0, v', hv1, ⟨v', rfl⟩, φ', hw', hext⟩
                · subst hv; subst hu
                  show Leaves P fn tmps R ds (settle .returning) w'
                  refine hd _ _ _ _ hrec φ' w' fn tmps R ds hw' (hds.mono hext.mono) (fr.rest hext) fun φ'' w'' a b => hk φ'' w'' a ?_
                  exact hext.trans b hw'.top (fr.part hnx)
              have fin : defF2 E rec l gn a1 h1 a1.df = .val v h' → (o = .norm ∨ o = .ret) → Leaves P fn tmps R ({ target := .fn (.func f) cap, args := args } :: ds) .returning w := by
                intro he ho
                unfold defF2 at he
                split at he
                · rename_i hdf
                  unfold defG at he
                  split at he
                  · rename_i u h2 hret
                    exact key hdf u h2 hret he ho
                  · cases he
                · cases he
              unfold defO at he
              split at he
              · cases he
              · rename_i hno
                refine fin he ?_
                cases o with
                | norm => exact .inl rfl
                | ret => exact .inr rfl
                | exit i => exact absurd rfl (hno i)
            · cases he
          · cases he
        · cases he
      · cases he

theorem retF_nx (hn : ∀ q, (rec q).nxOk q.nx) (E : Env) (fn : Func) (a : Act) (h : Heap) (l : List (Nat × List AV)) : (retF E rec fn a h l).nxOk h.nx := by
  unfold retF
  split
  · exact retV_nx h _
  · rename_i x l
    have h2 := hn (.defers (x :: l) h)
    unfold retD
    split
    · rename_i v h'' e2
      rw [e2] at h2
      exact (retV_nx h'' _).mono h2
    · trivial

theorem scall_step (hE : E.Typed P) (hC : E.Calls P) (hn : ∀ q, (rec q).nxOk q.nx) (hs : SCode P rec) (hd : SDef P rec) :
    ∀ f xs h v h', callN E rec f xs h (E.nat f) = .val v h' → CallOK P f xs h v h' := by
  intro f xs h v h' he φ w xs' hw hx fr
  have hnat : ∀ g, E.ext f = some g → natV h (g xs) = .val v h' → Does P f xs' w fun e w' => ∃ v' φ', e = .returned v' ∧ WRel φ' h' w' ∧ Ext φ h w φ' h' w' ∧ VRel φ' v v' := by
    intro g hg he
    unfold natV at he
    split at he
    · rename_i u hu
      rw [AV.force_eq] at he
      cases he
      exact Does.mono (hC.ext f g xs _ hg hu φ w xs' hx) fun e w' ⟨v', h1, h2, h3⟩ => ⟨v', φ, h1, hw.keeps h2, Ext.keeps φ h h2, h3⟩
    · cases he
  unfold callN at he
  split at he
  · rename_i g hg
    unfold specV at he
    split at he
    · rename_i u h2 hu
      split at he
      · rw [AV.force_eq] at he
        cases he
        exact hC.nat f g xs h _ _ hg hu φ w xs' hw hx fr
      · cases he
    · cases he
  · unfold callX at he
    split at he
    · rename_i g hg
      exact hnat g hg he
    · unfold callC at he
      split at he
      · -- maps.clone
        rename_i hcl
        unfold cloneV at he
        split at he
        · rename_i t r
          unfold cloneO at he
          split at he
          · rename_i es c hg
            rw [newK_eq] at he
            split at he
            · rename_i hs
              cases he
              simp only [VRels] at hx
              obtain ⟨y, ys, hxs, hy, rfl⟩ := hx
              simp only [VRel] at hy
              obtain ⟨y', rfl, im, hb, rfl⟩ := hy
              have hxs := arr_of_toList hxs
              obtain ⟨es', g1, g2, _, _⟩ := mapAt hw hb hg
              have hrun : (callFunc f xs').run P w = .ok (.value (.iface t (.map (some w.heap.size)))) { w with heap := w.heap.push (.map es' c) } := by
                rw [hxs]
                exact hC.clone f hcl t im.cb es' c w g1
              unfold Does
              rw [hrun]
              have hf : φ h.nx = none := fr h.nx (Nat.le_refl _) (Nat.lt_succ_self _)
              obtain ⟨a1, a2⟩ := change_new (w' := { w with heap := w.heap.push (.map es' c) }) (sz := 0) (ao := .map es c) hw hf hs rfl ⟨rfl, rfl, es', rfl, g2.mono (upd_mono hf)⟩ ⟨rfl, rfl⟩
              refine ⟨_, _, rfl, a1, a2, ?_⟩
              simp only [VRel]
              exact ⟨_, rfl, _, upd_self _ _ _, rfl⟩
            · cases he
          · cases he
        · cases he
      · -- a function with a body
        unfold enterF at he
        split at he
        · rename_i fn hfn
          split at he
          · rename_i hle
            simp only [Bool.and_eq_true, Nat.ble_eq, lenN_eq] at hle
            unfold enterB at he
            split at he
            · rename_i body hbody
              rw [argsK_eq] at he
              obtain ⟨hpf, hnm, hdk⟩ := hC.fn f fn hfn
              unfold retR at he
              split at he
              · rename_i o a1 h1 hcode
                have hcs := hs _ _ _ _ _ _ (hdk _ hbody) hcode
                have ha0 := arel_enter (φ := φ) hx hle.1 hle.2
                -- behind the body
                have hh : ∀ h2, retV h2 (resultsOf E a1 h2 fn.results.toList) = .val v h' → h' = h2 := by
                  intro h2 hret
                  unfold retV at hret
                  split at hret <;> first | (cases hret; rfl) | cases hret
                have fin : retF E rec fn a1 h1 a1.df = .val v h' → (o = .norm ∨ o = .ret) →
                    Does P f xs' w fun e w' => ∃ v' φ', e = .returned v' ∧ WRel φ' h' w' ∧ Ext φ h w φ' h' w' ∧ VRel φ' v v' := by
                  intro he ho
                  have hnx : h1.nx ≤ h'.nx := by
                    have := retF_nx hn E fn a1 h1 a1.df
                    rw [he] at this
                    exact this
                  refine does_enter hpf hnm hbody (calls_of_wp_defers hpf hbody ?_)
                  refine hcs φ _ w hw ha0 (fr.part hnx) _ fun φ' ca' w' hw' ha' hext => ?_
                  have hl : Leaves P fn ca'.tmps (fun e w' => ∃ v' φ', e = .returned v' ∧ WRel φ' h' w' ∧ Ext φ h w φ' h' w' ∧ VRel φ' v v') ca'.defers .returning w' := by
                    unfold retF at he
                    split at he
                    · rename_i hdf
                      have hd0 : ca'.defers = [] := by
                        have := ha'.df
                        rw [hdf] at this
                        exact this
                      have := hh _ he; subst this
                      obtain ⟨_, v', hv1, hv2⟩ := results_run hE hw' ha' he
                      rw [hd0]
                      exact ⟨v', hv1, v', φ', rfl, hw', hext, hv2⟩
                    · rename_i x l hdf
                      unfold retD at he
                      split at he
                      · rename_i u h2 hdd
                        have := hh _ he; subst this
                        refine hd _ _ _ _ hdd φ' w' fn ca'.tmps _ ca'.defers hw' (by rw [← hdf]; exact ha'.df) (fr.rest hext) fun φ'' w'' a b => ?_
                        obtain ⟨_, v', hv1, hv2⟩ := results_run hE a (ha'.mono b.mono) he
                        exact ⟨v', hv1, v', φ'', rfl, a, hext.trans b hw'.top (fr.part hnx), hv2⟩
                      · cases he
                  rcases ho with rfl | rfl
                  · exact hl
                  · exact hl
                unfold retO at he
                split at he
                · cases he
                · rename_i hno
                  refine fin he ?_
                  cases o with
                  | norm => exact .inl rfl
                  | ret => exact .inr rfl
                  | exit i => exact absurd rfl (hno i)
              · cases he
            · cases he
          · cases he
        · cases he
end
end Go.AE

namespace Go.AE
set_option linter.unusedSectionVars false
variable [G : Glob]

/-! ### what an operation hangs on -/
section
variable {a a' : Act}
theorem evals_congr : ∀ {l : List Operand}, (∀ x ∈ l, a.eval x = a'.eval x) → evals a l = evals a' l
  | [], _ => rfl
  | x :: l, h => by rw [evals_cons, evals_cons, h x (by simp), evals_congr (l := l) fun y hy => h y (by simp [hy])]
theorem evalParts_congr : ∀ {l : List (Nat × Operand)}, (∀ x ∈ l.map (·.2), a.eval x = a'.eval x) → evalParts a l = evalParts a' l
  | [], _ => rfl
  | x :: l, h => by rw [evalParts_cons, evalParts_cons, h x.2 (by simp), evalParts_congr (l := l) fun y hy => h y (by simp at hy ⊢; exact .inr hy)]
theorem evalO_congr {x : Option Operand} (h : ∀ y ∈ x.toArray, a.eval y = a'.eval y) : evalO a x = evalO a' x := by
  cases x with
  | none => rfl
  | some x => show some _ = some _; rw [h x (by simp)]

theorem gBuiltin_congr (c : Call) (b : Builtin) (E : Env) (h : Heap) (x y : Option (List AV)) (e : x = y) : gCall c E a h x = gCall c E a h y := by rw [e]

theorem opFn_congr (E : Env) (h : Heap) (o : Op) (hx : ∀ x ∈ o.operands, a.eval x = a'.eval x) : opFn o E a h = opFn o E a' h := by
  cases o with
  | move x => simp [Op.operands] at hx; show fMove x E a h = fMove x E a' h; simp [fMove, hx]
  | assign x => simp [Op.operands] at hx; show fMove x E a h = fMove x E a' h; simp [fMove, hx]
  | pick c x y => simp [Op.operands] at hx; show fPick c x y E a h = fPick c x y E a' h; simp only [fPick, hx]; cases a'.eval c with
    | none => rfl
    | some v => simp only [gPick]; split <;> simp [hx]
  | alloc t => rfl
  | box t x => simp [Op.operands] at hx; show fBox x E a h = fBox x E a' h; simp [fBox, hx]
  | build t ps => show fBuild t ps E a h = fBuild t ps E a' h; simp only [fBuild]; rw [evalParts_congr fun x hm => hx x (by simpa [Op.operands] using hm)]
  | buildSlice t n ps => show fBuildSlice t n ps E a h = fBuildSlice t n ps E a' h; simp only [fBuildSlice]; rw [evalParts_congr fun x hm => hx x (by simpa [Op.operands] using hm)]
  | insert t m k x => simp [Op.operands] at hx; show fMapUpdate t m k x E a h = fMapUpdate t m k x E a' h; simp [fMapUpdate, hx]
  | load t x => simp [Op.operands] at hx; show fLoad t x E a h = fLoad t x E a' h; simp [fLoad, hx]
  | store t x y => simp [Op.operands] at hx; show fStore t x y E a h = fStore t x y E a' h; simp only [fStore, hx]; cases a'.eval x with
    | none => rfl
    | some v => cases v <;> simp [gStore, hx]
  | nilCheck x => simp [Op.operands] at hx; show fNilCheck x E a h = fNilCheck x E a' h; simp [fNilCheck, hx]
  | binOp op t x y yt => simp [Op.operands] at hx; show fBin op t x y E a h = fBin op t x y E a' h; simp [fBin, hx]
  | unOp op t x => simp [Op.operands] at hx; show fUn op x E a h = fUn op x E a' h; simp [fUn, hx]
  | convert s d x => simp [Op.operands] at hx; show fConvert s d x E a h = fConvert s d x E a' h; simp [fConvert, hx]
  | makeInterface t x => simp [Op.operands] at hx; show fMakeInterface t x E a h = fMakeInterface t x E a' h; simp [fMakeInterface, hx]
  | makeFunc fn f c =>
    show fMakeFunc fn f c E a h = fMakeFunc fn f c E a' h
    simp only [fMakeFunc]
    rw [evals_congr fun x hm => hx x (by simp [Op.operands]; exact .inl (by simpa using hm)), evals_congr fun x hm => hx x (by simp [Op.operands]; exact .inr (by simpa using hm))]
  | makeMap t r => cases r with
    | none => rfl
    | some x => simp [Op.operands] at hx; show fMakeMap t (some x) E a h = fMakeMap t (some x) E a' h; simp [fMakeMap, hx]
  | makeSlice t l c => simp [Op.operands] at hx; show fMakeSlice t l c E a h = fMakeSlice t l c E a' h; simp [fMakeSlice, hx]
  | slice t x lo hi mx =>
    show fSlice t x lo hi mx E a h = fSlice t x lo hi mx E a' h
    simp only [fSlice]
    rw [hx x (by simp [Op.operands]), evalO_congr (x := lo) fun y hy => hx y (by simp [Op.operands]; exact .inr (.inl (by simpa using hy))),
      evalO_congr (x := hi) fun y hy => hx y (by simp [Op.operands]; exact .inr (.inr (.inl (by simpa using hy)))),
      evalO_congr (x := mx) fun y hy => hx y (by simp [Op.operands]; exact .inr (.inr (.inr (by simpa using hy))))]
  | fieldAddr t x f => simp [Op.operands] at hx; show fFieldAddr t x f E a h = fFieldAddr t x f E a' h; simp [fFieldAddr, hx]
  | field t x f => simp [Op.operands] at hx; show fField t x f E a h = fField t x f E a' h; simp [fField, hx]
  | indexAddr t x i => simp [Op.operands] at hx; show fIndexAddr t x i E a h = fIndexAddr t x i E a' h; simp [fIndexAddr, hx]
  | index t x i => simp [Op.operands] at hx; show fIndex t x i E a h = fIndex t x i E a' h; simp [fIndex, hx]
  | lookup t x i ok => simp [Op.operands] at hx; show fLookup t x i ok E a h = fLookup t x i ok E a' h; simp [fLookup, hx]
  | mapUpdate t m k x => simp [Op.operands] at hx; show fMapUpdate t m k x E a h = fMapUpdate t m k x E a' h; simp [fMapUpdate, hx]
  | range t x => simp [Op.operands] at hx; show fRange t x E a h = fRange t x E a' h; simp [fRange, hx]
  | next x s =>
    simp [Op.operands] at hx
    cases s with
    | false => show fNext x E a h = fNext x E a' h; simp [fNext, hx]
    | true => rfl
  | typeAssert x xt t ok => simp [Op.operands] at hx; show fTypeAssert x t ok E a h = fTypeAssert x t ok E a' h; simp [fTypeAssert, hx]
  | extract x i => simp [Op.operands] at hx; show fExtract x i E a h = fExtract x i E a' h; simp [fExtract, hx]
  | call c =>
    have hargs : evals a c.args.toList = evals a' c.args.toList := evals_congr fun x hm => hx x (by simp [Op.operands, Call.operands]; exact .inr (by simpa using hm))
    show fCall c E a h = fCall c E a' h
    simp only [fCall]
    rw [hargs]
    unfold gCall
    split
    · cases hc : c.callee with
      | builtin b => rfl
      | value f => have hf : a.eval f = a'.eval f := hx f (by simp [Op.operands, Call.operands, hc]); simp only [hf]
      | invoke r n => have hf : a.eval r = a'.eval r := hx r (by simp [Op.operands, Call.operands, hc]); simp only [hf]
    · rfl
  | defer c =>
    have hargs : evals a c.args.toList = evals a' c.args.toList := evals_congr fun x hm => hx x (by simp [Op.operands, Call.operands]; exact .inr (by simpa using hm))
    show fDefer c E a h = fDefer c E a' h
    simp only [fDefer]
    rw [hargs]
    unfold gDefer
    split
    · cases hc : c.callee with
      | builtin b => rfl
      | value f => have hf : a.eval f = a'.eval f := hx f (by simp [Op.operands, Call.operands, hc]); simp only [hf]
      | invoke r n => rfl
    · rfl
  | _ => rfl

/-- the number that comes next is all that a free operation wants of the heap -/
theorem opFn_free (E : Env) (h : Heap) (o : Op) (hk : kindOf o = .free) : opFn o E a h = opFn o E a ⟨.nil, h.nx⟩ := by
  cases o with
  | alloc t => show gAlloc _ _ = gAlloc _ _; cases zOf (E.ty t) <;> rfl
  | box t x => show gBox _ _ = gBox _ _; cases a.eval x with
    | none => rfl
    | some v => cases v <;> rfl
  | makeMap t r => cases r with
    | none => rfl
    | some x =>
      show gMakeMapT _ _ _ = gMakeMapT _ _ _
      unfold gMakeMapT
      split
      · cases oNat (a.eval x) <;> rfl
      · rfl
  | call c =>
    have hk : kindC c.callee = .free := hk
    cases hc : c.callee with
    | builtin b =>
      rw [hc] at hk
      have hk : kindB b = .free := hk
      show gCall _ _ _ _ _ = gCall _ _ _ _ _
      unfold gCall
      split
      · rw [hc]
        cases b <;> simp [kindB] at hk <;> rfl
      · rfl
    | value f => rw [hc] at hk; cases hk
    | invoke r n => rw [hc] at hk; cases hk
  | _ => first | rfl | (simp [kindOf] at hk)

/-- of the heap a store wants the block alone into which it writes -/
theorem store_local {E : Env} {h : Heap} {o : Op} {b : Nat} {x : AO} {v : AV} (hk : kindOf o = .store) (hr : opFn o E a h = .set b x v) :
    (∃ y, h.get b = some y) ∧ (∃ p off, p ∈ o.operands ∧ a.eval p = some (.ptr b off)) ∧ ∀ K : Heap, K.get b = h.get b → opFn o E a K = .set b x v := by
  cases o with
  | store t p y =>
    have hr : gStore E a h t y (a.eval p) = .set b x v := hr
    have hop : ∀ K, opFn (.store t p y) E a K = gStore E a K t y (a.eval p) := fun _ => rfl
    unfold gStore at hr
    split at hr
    · rename_i b0 o0 he
      unfold gStore1 at hr
      split at hr
      · cases hr
      · rename_i u _ hu
        unfold gStore2 at hr
        split at hr
        · rename_i ty hty
          split at hr
          · rename_i hsz
            unfold gStore3 at hr
            split at hr
            · rename_i c hc
              unfold gStore4 at hr
              split at hr
              · rename_i c' hc'
                cases hr
                refine ⟨⟨_, hc⟩, ⟨p, o0, by simp [Op.operands], he⟩, fun K hK => ?_⟩
                rw [hop, he]
                show gStore1 E K t b o0 (a.eval y) = _
                unfold gStore1
                split
                · rename_i heq; rw [hu] at heq; cases heq; simp_all
                · rename_i heq
                  rw [hu] at heq; cases heq
                  unfold gStore2
                  rw [hty]
                  simp only [hsz]
                  unfold gStore3
                  rw [hK, hc]
                  simp only [gStore4, hc']
                · rename_i heq; rw [hu] at heq; cases heq
              · cases hr
            · cases hr
          · cases hr
        · cases hr
      · cases hr
    · cases hr
  | call c =>
    have hk : kindC c.callee = .store := hk
    cases hc : c.callee with
    | builtin b => rw [hc] at hk; have hk : kindB b = .store := hk; cases b <;> simp [kindB] at hk
    | value f => rw [hc] at hk; cases hk
    | invoke r n => rw [hc] at hk; cases hk
  | _ => simp [kindOf] at hk
end
end Go.AE

namespace Go.AE
set_option linter.unusedSectionVars false
variable [G : Glob]

/-! ### a region that draws its order: from the run in the order of the text to every order -/

/-- what an operation did -/
inductive What where
  | skip | free (new : Option AO) | read | act | store (b : Nat) (x : AO)

structure Rc where
  o : Oper
  wt : What
  a : Act
  h : Heap
  v : AV
  h2 : Heap

def What.st : What → Option (Option Nat)
  | .act => some none
  | .store b _ => some (some b)
  | _ => none

def What.OK (P : Program) (E : Env) (o : Oper) (a : Act) (h : Heap) (v : AV) (h2 : Heap) : What → Prop
  | .skip => v = unit ∧ h2 = h
  | .free none => kindOf o.op = .free ∧ opFn o.op E a h = .val v ∧ h2 = h ∧ h.nx ≤ bigN
  | .free (some ob) => kindOf o.op = .free ∧ opFn o.op E a h = .new ob v ∧ h2 = h.new ob ∧ h.nx < bigN
  | .read => opFn o.op E a h = .val v ∧ h2 = h
  | .act => ((isCallO o.op = true ∧ ∃ f xs, opFn o.op E a h = .call f xs ∧ CallOK P f xs h v h2) ∨ applyR h (opFn o.op E a h) = some (v, h2)) ∧ h.nx ≤ h2.nx
  | .store b x => kindOf o.op = .store ∧ opFn o.op E a h = .set b x v ∧ h2 = h.put b x

structure Run (P : Program) (E : Env) (ops : Array Oper) (a0 : Act) (h0 : Heap) (R : Nat → Rc) (mk : Nat → Nat) : Prop where
  op : ∀ i, i < ops.size → ops[i]? = some (R i).o
  h0 : (R 0).h = h0
  a0 : (R 0).a = a0
  hs : ∀ i, i < ops.size → (R (i + 1)).h = (R i).h2
  as : ∀ i, i < ops.size → (R (i + 1)).a = (R i).a.putA (R i).o.dst (R i).v
  dst : ∀ i, i < ops.size → ∀ d, (R i).o.dst = some d → d < (R i).a.nt
  wants : ∀ i, i < ops.size → wants (R i).a ops.toList (R i).o.guard = some (match (R i).wt with | .skip => false | _ => true)
  step : ∀ i, i < ops.size → (R i).wt.OK P E (R i).o (R i).a (R i).h (R i).v (R i).h2
  chain : ∀ i, i < ops.size → ∀ st, (R i).wt.st = some st → ∀ j, j < i → ∀ st', (R j).wt.st = some st' → (mk i).testBit j = true ∨ looseS st st' = true
  reads : ∀ i, i < ops.size → (R i).wt = .read → ∀ p : Nat → Prop, (∀ j, (mk i).testBit j = true → p j) → (∀ j, j < ops.size → p j → ∀ k, (mk j).testBit k = true → p k) → ¬ p i →
    ∃ t, t ≤ ops.size ∧ opFn (R i).o.op E (R i).a (R t).h = .val (R i).v ∧ ∀ j, j < ops.size → (R j).wt.st ≠ none → (j < t ↔ p j)
  mask : ∀ i, i < ops.size → ∀ j, (mk i).testBit j = true → ∃ e ∈ (R i).o.after, Region.binds .any e = true ∧ (j = e.on ∨ (mk e.on).testBit j = true)
  back : ∀ i, i < ops.size → ∀ e ∈ (R i).o.after, Region.binds .any e = true → e.on < i
  dist : ∀ i j, i < ops.size → j < ops.size → ∀ d, (R i).o.dst = some d → (R j).o.dst = some d → i = j
  look : ∀ i j, i < ops.size → j < ops.size → ∀ d, (R j).o.dst = some d → d ∈ (R i).o.looksAt ops → (mk i).testBit j = true ∨ (mk j).testBit i = true

/-- at stage t a block is as it is now, where S has been done -/
def Vd (n : Nat) (R : Nat → Rc) (S : Nat → Prop) (b t : Nat) : Prop :=
  (∀ s, s < t → s < n → ¬ S s → (R (s + 1)).h.get b = (R s).h.get b) ∧ (∀ s, t ≤ s → s < n → S s → (R (s + 1)).h.get b = (R s).h.get b) ∧ b < (R t).h.nx

def Tp (h : Heap) : Prop := (∀ b, h.nx ≤ b → h.get b = none) ∧ h.nx ≤ bigN

structure Inv (n : Nat) (R : Nat → Rc) (mk : Nat → Nat) (a0 : Act) (h0 : Heap) (φ0 : Phi) (w0 : World) (S : Nat → Prop) (φ : Phi) (w : World) (ca : Go.Act) : Prop where
  down : ∀ i, i < n → S i → ∀ j, (mk i).testBit j = true → S j
  mono : ∀ b im, φ0 b = some im → φ b = some im
  rng : ∀ b, φ0 b = none → φ b ≠ none → ∃ i, i < n ∧ S i ∧ (R i).h.nx ≤ b ∧ b < (R (i + 1)).h.nx
  afr : ∀ i, i < n → S i → ∀ b, b < (R i).h.nx → φ b = none → (R (i + 1)).h.get b = (R i).h.get b
  lv : ∀ i, i < n → S i → ∀ b, b < (R i).h.nx → (R (i + 1)).h.get b ≠ none → (R i).h.get b ≠ none
  tp : ∀ i, i < n → S i → Tp (R i).h → Tp (R (i + 1)).h
  live : ∀ b im t o, t ≤ n → Vd n R S b t → φ b = some im → (R t).h.get b = some o → ∃ o', w.heap[im.cb]? = some o' ∧ ORel φ im o o'
  dom : ∀ b im, φ b = some im → ∃ o', w.heap[im.cb]? = some o' ∧ Sized im o'
  inj : ∀ b b' im im' t t', t ≤ n → t' ≤ n → Vd n R S b t → Vd n R S b' t' → (R t).h.get b ≠ none → (R t').h.get b' ≠ none → φ b = some im → φ b' = some im' → im.cb = im'.cb → b = b'
  cfr : ∀ c ob, w0.heap[c]? = some ob → (∀ b im, φ0 b = some im → h0.get b ≠ none → im.cb ≠ c) → w.heap[c]? = some ob
  size : w0.heap.size ≤ w.heap.size
  newcb : ∀ b im, φ0 b = none → φ b = some im → w0.heap.size ≤ im.cb ∨ ∃ b0 im0, φ0 b0 = some im0 ∧ h0.get b0 ≠ none ∧ im0.cb = im.cb
  tms : ∀ i, i < n → S i → ∀ d, (R i).o.dst = some d → ∃ v', ca.tmps[d]? = some v' ∧ VRel φ (R i).v v'
  old : ∀ d v, (∀ i, i < n → S i → (R i).o.dst ≠ some d) → a0.tm.get d = some v → ∃ v', ca.tmps[d]? = some v' ∧ VRel φ v v'
  nt : ca.tmps.size = a0.nt
  df : DRels φ a0.df ca.defers
  qt : Quiet w0 w
  base : G.Base w
  glob : ∀ b im t, t ≤ n → Vd n R S b t → (R t).h.get b ≠ none → φ b = some im → G.gN ≤ im.cb

section
variable {P : Program} {E : Env} {ops : Array Oper} {a0 : Act} {h0 : Heap} {R : Nat → Rc} {mk : Nat → Nat}
variable {φ0 φ : Phi} {w0 w : World} {S : Nat → Prop} {ca : Go.Act}

/-! what the steps in the order of the text do to the heap -/
theorem Run.nx1 (hR : Run P E ops a0 h0 R mk) {i : Nat} (hi : i < ops.size) : (R i).h.nx ≤ (R (i + 1)).h.nx := by
  have hst := hR.step i hi
  rw [hR.hs i hi]
  cases hw : (R i).wt with
  | skip => rw [hw] at hst; rw [hst.2]; exact Nat.le_refl _
  | free o => rw [hw] at hst; cases o with
    | none => rw [hst.2.2.1]; exact Nat.le_refl _
    | some ob => rw [hst.2.2.1]; exact Nat.le_succ _
  | read => rw [hw] at hst; rw [hst.2]; exact Nat.le_refl _
  | act => rw [hw] at hst; exact hst.2
  | store b x => rw [hw] at hst; rw [hst.2.2]; exact Nat.le_refl _

theorem Run.nx (hR : Run P E ops a0 h0 R mk) {i j : Nat} (hij : i ≤ j) (hj : j ≤ ops.size) : (R i).h.nx ≤ (R j).h.nx := by
  induction j with
  | zero => have : i = 0 := by omega
            subst this; exact Nat.le_refl _
  | succ j ih =>
    by_cases e : i = j + 1
    · subst e; exact Nat.le_refl _
    · exact Nat.le_trans (ih (by omega) (by omega)) (hR.nx1 (by omega))

theorem Run.plain (hR : Run P E ops a0 h0 R mk) {i : Nat} (hi : i < ops.size) (ha : (R i).wt.st = none) : (R (i + 1)).h = (R i).h ∨ ∃ ob, (R (i + 1)).h = (R i).h.new ob ∧ (R i).h.nx < bigN := by
  have hst := hR.step i hi
  rw [hR.hs i hi]
  cases hw : (R i).wt with
  | skip => rw [hw] at hst; exact .inl hst.2
  | free o => rw [hw] at hst; cases o with
    | none => exact .inl hst.2.2.1
    | some ob => exact .inr ⟨ob, hst.2.2.1, hst.2.2.2⟩
  | read => rw [hw] at hst; exact .inl hst.2
  | act => rw [hw] at ha; cases ha
  | store b x => rw [hw] at ha; cases ha

theorem Run.plain_get (hR : Run P E ops a0 h0 R mk) {i : Nat} (hi : i < ops.size) (ha : (R i).wt.st = none) {b : Nat} (hb : b ≠ (R i).h.nx ∨ (R (i + 1)).h.nx = (R i).h.nx) : (R (i + 1)).h.get b = (R i).h.get b := by
  rcases hR.plain hi ha with e | ⟨ob, e, hs⟩
  · rw [e]
  · rw [e, Heap.get_new hs]
    rcases hb with hb | hb
    · rw [if_neg hb]
    · rw [e] at hb; simp [Heap.new] at hb

theorem Run.store_get (hR : Run P E ops a0 h0 R mk) {i : Nat} (hi : i < ops.size) {b : Nat} {x : AO} (hw : (R i).wt = .store b x) (hbig : b < bigN) {c : Nat} (hc : c ≠ b) : (R (i + 1)).h.get c = (R i).h.get c := by
  have hst := hR.step i hi
  rw [hw] at hst
  rw [hR.hs i hi, hst.2.2, Heap.get_put hbig, if_neg hc]

theorem Run.tp1 (hR : Run P E ops a0 h0 R mk) {i : Nat} (hi : i < ops.size) (ha : (R i).wt.st ≠ some none) (ht : Tp (R i).h) : Tp (R (i + 1)).h := by
  cases hs : (R i).wt.st with
  | none =>
    rcases hR.plain hi hs with e | ⟨ob, e, hs⟩
    · rw [e]; exact ht
    · rw [e]
      refine ⟨fun b hb => ?_, hs⟩
      have hb : (R i).h.nx + 1 ≤ b := hb
      rw [Heap.get_new hs, if_neg (by omega)]
      exact ht.1 b (by omega)
  | some st =>
    have hst := hR.step i hi
    cases hw : (R i).wt with
    | store b x =>
      rw [hw] at hst
      obtain ⟨⟨y, hy⟩, _, _⟩ := store_local hst.1 hst.2.1
      have hlt : b < (R i).h.nx := by
        apply Classical.byContradiction; intro hh
        rw [ht.1 b (by omega)] at hy; cases hy
      rw [hR.hs i hi, hst.2.2]
      refine ⟨fun c hc => ?_, ht.2⟩
      have hc : (R i).h.nx ≤ c := hc
      have := ht.2
      rw [Heap.get_put (by omega), if_neg (by omega)]
      exact ht.1 c hc
    | act => rw [hw] at ha; exact absurd rfl ha
    | _ => rw [hw] at hs; cases hs

theorem Vd.unique {n b t t' : Nat} (h1 : Vd n R S b t) (h2 : Vd n R S b t') (ht : t ≤ n) (ht' : t' ≤ n) : (R t).h.get b = (R t').h.get b := by
  have key : ∀ t t', Vd n R S b t → Vd n R S b t' → t ≤ t' → t' ≤ n → (R t).h.get b = (R t').h.get b := by
    intro t t' h1 h2 hle hn
    have : ∀ k, t + k ≤ t' → (R t).h.get b = (R (t + k)).h.get b := by
      intro k
      induction k with
      | zero => intro _; rfl
      | succ k ih =>
        intro hk
        rw [ih (by omega)]
        by_cases hS : S (t + k)
        · exact (h1.2.1 (t + k) (by omega) (by omega) hS).symm
        · exact (h2.1 (t + k) (by omega) (by omega) hS).symm
    have := this (t' - t) (by omega)
    rwa [show t + (t' - t) = t' by omega] at this
  by_cases hle : t ≤ t'
  · exact key t t' h1 h2 hle ht'
  · exact (key t' t h2 h1 (by omega) ht).symm

/-- a place in the text ahead of which all that acts is done, and behind it nothing -/
def Pos (n : Nat) (R : Nat → Rc) (S : Nat → Prop) (t : Nat) : Prop := t ≤ n ∧ ∀ s, s < n → (R s).wt.st ≠ none → (s < t ↔ S s)

theorem Inv.tpAt (hR : Run P E ops a0 h0 R mk) (I : Inv ops.size R mk a0 h0 φ0 w0 S φ w ca) (h0t : Tp h0) : ∀ t, t ≤ ops.size → (∀ s, s < t → (R s).wt.st = some none → S s) → Tp (R t).h := by
  intro t
  induction t with
  | zero => intro _ _; rw [hR.h0]; exact h0t
  | succ t ih =>
    intro ht hs
    have := ih (by omega) fun s hs' => hs s (by omega)
    by_cases ha : (R t).wt.st = some none
    · exact I.tp t (by omega) (hs t (by omega) ha) this
    · exact hR.tp1 (by omega) ha this

/-- the blocks of an operation that was not done yet stand for nothing -/
theorem Inv.none_of (hR : Run P E ops a0 h0 R mk) (I : Inv ops.size R mk a0 h0 φ0 w0 S φ w ca) (fr : Fresh φ0 h0.nx (R ops.size).h.nx) {i : Nat} (hi : i < ops.size) (hS : ¬ S i) {b : Nat}
    (h1 : (R i).h.nx ≤ b) (h2 : b < (R (i + 1)).h.nx) : φ b = none := by
  apply Classical.byContradiction
  intro hn
  have hf : φ0 b = none := fr b (by have := hR.nx (Nat.zero_le i) (by omega); rw [hR.h0] at this; omega) (by have := hR.nx (show i + 1 ≤ ops.size by omega) (Nat.le_refl _); omega)
  obtain ⟨j, hj, hSj, g1, g2⟩ := I.rng b hf hn
  by_cases hij : i = j
  · subst hij; exact hS hSj
  · by_cases hlt : i < j
    · have := hR.nx (show i + 1 ≤ j by omega) (by omega); omega
    · have := hR.nx (show j + 1 ≤ i by omega) (by omega); omega

theorem Inv.unch (hR : Run P E ops a0 h0 R mk) (I : Inv ops.size R mk a0 h0 φ0 w0 S φ w ca) (fr : Fresh φ0 h0.nx (R ops.size).h.nx) {i : Nat} (hi : i < ops.size) (hS : ¬ S i) (ha : (R i).wt.st = none) {b : Nat}
    (hb : φ b ≠ none) : (R (i + 1)).h.get b = (R i).h.get b := by
  refine hR.plain_get hi ha ?_
  by_cases e : b = (R i).h.nx
  · by_cases e' : (R (i + 1)).h.nx = (R i).h.nx
    · exact .inr e'
    · exfalso
      have := hR.nx1 hi
      exact hb (I.none_of hR fr hi hS (by omega) (by omega))
  · exact .inl e

theorem Inv.vdPos (hR : Run P E ops a0 h0 R mk) (I : Inv ops.size R mk a0 h0 φ0 w0 S φ w ca) (h0t : Tp h0) (fr : Fresh φ0 h0.nx (R ops.size).h.nx) {t : Nat} (hp : Pos ops.size R S t) {b : Nat}
    (hb : φ b ≠ none) (hg : (R t).h.get b ≠ none) : Vd ops.size R S b t := by
  have htp := I.tpAt hR h0t t hp.1 fun s hs ha => (hp.2 s (by have := hp.1; omega) (by rw [ha]; simp)).1 hs
  refine ⟨fun s hs hsn hS => ?_, fun s hs hsn hS => ?_, by apply Classical.byContradiction; intro hh; exact hg (htp.1 b (by omega))⟩
  · refine I.unch hR fr hsn hS ?_ hb
    cases ha : (R s).wt.st with
    | none => rfl
    | some st => exact absurd ((hp.2 s hsn (by rw [ha]; simp)).1 hs) hS
  · refine hR.plain_get hsn ?_ (.inl ?_)
    · cases ha : (R s).wt.st with
      | none => rfl
      | some st => have := (hp.2 s hsn (by rw [ha]; simp)).2 hS; omega
    · intro e
      have := hR.nx hs (by omega)
      exact hg (htp.1 b (by omega))

theorem Inv.wrelPos (hR : Run P E ops a0 h0 R mk) (I : Inv ops.size R mk a0 h0 φ0 w0 S φ w ca) (h0t : Tp h0) (fr : Fresh φ0 h0.nx (R ops.size).h.nx) {t : Nat} (hp : Pos ops.size R S t) : WRel φ (R t).h w := by
  have htp := I.tpAt hR h0t t hp.1 fun s hs ha => (hp.2 s (by have := hp.1; omega) (by rw [ha]; simp)).1 hs
  refine ⟨fun b o im hg hb => ?_, I.dom, fun b b' im im' hg hg' hb hb' hc => ?_, htp.1, htp.2, I.base, fun b im hg hb => I.glob b im t hp.1 (I.vdPos hR h0t fr hp (by rw [hb]; simp) hg) hg hb⟩
  · exact I.live b im t o hp.1 (I.vdPos hR h0t fr hp (by rw [hb]; simp) (by rw [hg]; simp)) hb hg
  · exact I.inj b b' im im' t t hp.1 hp.1 (I.vdPos hR h0t fr hp (by rw [hb]; simp) hg) (I.vdPos hR h0t fr hp (by rw [hb']; simp) hg') hg hg' hb hb' hc

/-- what is live now was live at the start, if it was there -/
theorem Inv.live0 (hR : Run P E ops a0 h0 R mk) (I : Inv ops.size R mk a0 h0 φ0 w0 S φ w ca) {b : Nat} (hb : b < h0.nx) : ∀ t, t ≤ ops.size → (∀ s, s < t → s < ops.size → ¬ S s → (R (s + 1)).h.get b = (R s).h.get b) →
    (R t).h.get b ≠ none → h0.get b ≠ none := by
  intro t
  induction t with
  | zero => intro _ _ hg; rw [hR.h0] at hg; exact hg
  | succ t ih =>
    intro ht hs hg
    refine ih (by omega) (fun s h1 h2 h3 => hs s (by omega) h2 h3) ?_
    by_cases hS : S t
    · exact I.lv t (by omega) hS b (by have := hR.nx (Nat.zero_le t) (by omega); rw [hR.h0] at this; omega) hg
    · rw [← hs t (by omega) (by omega) hS]; exact hg

/-- one operation more -/
def plus (S : Nat → Prop) (i : Nat) : Nat → Prop := fun j => S j ∨ j = i

theorem Inv.advance (hR : Run P E ops a0 h0 R mk) (I : Inv ops.size R mk a0 h0 φ0 w0 S φ w ca) (fr0 : Fresh φ0 h0.nx (R ops.size).h.nx) {i : Nat} (hi : i < ops.size)
    (hdown : ∀ j, (mk i).testBit j = true → S j) {K K' : Heap} {φ' : Phi} {w' : World} {v' : Value}
    (k1 : ∀ b, φ b ≠ none → K.get b ≠ none → b < (R ops.size).h.nx ∧ ∃ t, t ≤ ops.size ∧ Vd ops.size R S b t ∧ (R t).h.get b = K.get b)
    (hw' : WRel φ' K' w') (he : Ext φ K w φ' K' w') (fr : Fresh φ K.nx K'.nx)
    (k3 : ∀ b, φ b = none → φ' b ≠ none → (R i).h.nx ≤ b ∧ b < (R (i + 1)).h.nx)
    (k4 : ∀ b im t o, t ≤ ops.size → φ' b = some im → Vd ops.size R (plus S i) b t → (R t).h.get b = some o → K'.get b = some o ∨ (φ b = some im ∧ K.get b = none ∧ Vd ops.size R S b t))
    (k5 : ∀ b, b < (R i).h.nx → φ b = none → (R (i + 1)).h.get b = (R i).h.get b)
    (k6 : ∀ b, b < (R i).h.nx → (R (i + 1)).h.get b ≠ none → (R i).h.get b ≠ none)
    (k7 : Tp (R i).h → Tp (R (i + 1)).h) (hnt : ∀ d, (R i).o.dst = some d → d < a0.nt) (hv : VRel φ' (R i).v v') :
    Inv ops.size R mk a0 h0 φ0 w0 (plus S i) φ' w' (ca.put (R i).o.dst v') := by
  -- no live block of K has the place of one beside it
  have apart : ∀ b im t o, t ≤ ops.size → φ b = some im → K.get b = none → Vd ops.size R S b t → (R t).h.get b = some o → ∀ b' im', φ b' = some im' → K.get b' ≠ none → im'.cb ≠ im.cb := by
    intro b im t o ht hb hk hvd hg b' im' hb' hk' hc
    obtain ⟨_, t', ht', hvd', hg'⟩ := k1 b' (by rw [hb']; simp) hk'
    have := I.inj b' b im' im t' t ht' ht hvd' hvd (by rw [hg']; exact hk') (by rw [hg]; simp) hb' hb hc
    subst this
    exact hk' hk
  have tmp : ∀ d v, (∃ u, ca.tmps[d]? = some u ∧ VRel φ v u) → (R i).o.dst ≠ some d → ∃ u, (ca.put (R i).o.dst v').tmps[d]? = some u ∧ VRel φ' v u := by
    intro d v ⟨u, h1, h2⟩ hne
    refine ⟨u, ?_, h2.mono he.mono⟩
    cases hd : (R i).o.dst with
    | none => exact h1
    | some d' =>
      show (ca.tmps.setIfInBounds d' v')[d]? = some u
      rw [Array.getElem?_setIfInBounds, if_neg]
      · exact h1
      · intro e; subst e; exact hne hd
  have hgl : ∀ b im t, t ≤ ops.size → Vd ops.size R (plus S i) b t → (R t).h.get b ≠ none → φ' b = some im → G.gN ≤ im.cb := by
    intro b im t ht hvd hg hb
    obtain ⟨o, ho⟩ := Option.ne_none_iff_exists'.1 hg
    rcases k4 b im t o ht hb hvd ho with hk | ⟨hb0, hk, hvd0⟩
    · exact hw'.glob b im (by rw [hk]; simp) hb
    · exact I.glob b im t ht hvd0 hg hb0
  refine ⟨?_, ?_, ?_, ?_, ?_, ?_, ?_, ?_, ?_, ?_, ?_, ?_, ?_, ?_, ?_, ?_, I.qt.trans he.qt, hw'.base, hgl⟩
  · intro j hj hS k hk
    rcases hS with hS | rfl
    · exact .inl (I.down j hj hS k hk)
    · exact .inl (hdown k hk)
  · intro b im e; exact he.mono _ _ (I.mono _ _ e)
  · intro b e e'
    by_cases hb : φ b = none
    · exact ⟨i, hi, .inr rfl, (k3 b hb e').1, (k3 b hb e').2⟩
    · obtain ⟨j, h1, h2, h3⟩ := I.rng b e hb
      exact ⟨j, h1, .inl h2, h3⟩
  · intro j hj hS b hb e
    have e0 : φ b = none := by
      cases h : φ b with
      | none => rfl
      | some im => rw [he.mono b im h] at e; cases e
    rcases hS with hS | rfl
    · exact I.afr j hj hS b hb e0
    · exact k5 b hb e0
  · intro j hj hS b hb e
    rcases hS with hS | rfl
    · exact I.lv j hj hS b hb e
    · exact k6 b hb e
  · intro j hj hS
    rcases hS with hS | rfl
    · exact I.tp j hj hS
    · exact k7
  · intro b im t o ht hvd hb hg
    rcases k4 b im t o ht hb hvd hg with hk | ⟨hb0, hk, hvd0⟩
    · exact hw'.live b o im hk hb
    · obtain ⟨o', h1, h2⟩ := I.live b im t o ht hvd0 hb0 hg
      exact ⟨o', he.cfr _ _ h1 fun b' im' hb' hk' => apart b im t o ht hb0 hk hvd0 hg b' im' hb' hk', h2.mono he.mono⟩
  · exact hw'.dom
  · intro b b' im im' t t' ht ht' hvd hvd' hg hg' hb hb' hc
    obtain ⟨o, ho⟩ := Option.ne_none_iff_exists'.1 hg
    obtain ⟨o', ho'⟩ := Option.ne_none_iff_exists'.1 hg'
    -- one in K', one beside it
    have mixed : ∀ b b' im im' t' o', K'.get b ≠ none → φ' b = some im → φ b' = some im' → K.get b' = none → t' ≤ ops.size → Vd ops.size R S b' t' → (R t').h.get b' = some o' → im.cb = im'.cb → b = b' := by
      intro b b' im im' t' o' hk hb hb' hk' ht' hvd' ho' hc
      cases hb0 : φ b with
      | some im0 =>
        have := he.mono b im0 hb0; rw [hb] at this; cases this
        by_cases hlt : b < K.nx
        · exact absurd hc (apart b' im' t' o' ht' hb' hk' hvd' ho' b im hb0 (he.live b hlt hk))
        · exfalso
          have hlt' : b < K'.nx := by
            apply Classical.byContradiction; intro hh; exact hk (hw'.top b (by omega))
          rw [fr b (by omega) hlt'] at hb0; cases hb0
      | none =>
        rcases he.newcb b im hb0 hb with h1 | ⟨b1, im1, h1, h2, h3⟩
        · exfalso
          obtain ⟨o'', h4, _⟩ := I.dom b' im' hb'
          have := lt_of_some h4; omega
        · exact absurd (h3.trans hc) (apart b' im' t' o' ht' hb' hk' hvd' ho' b1 im1 h1 h2)
    rcases k4 b im t o ht hb hvd ho with hk | ⟨hb0, hk, hvd0⟩ <;> rcases k4 b' im' t' o' ht' hb' hvd' ho' with hk' | ⟨hb0', hk', hvd0'⟩
    · exact hw'.inj b b' im im' (by rw [hk]; simp) (by rw [hk']; simp) hb hb' hc
    · exact mixed b b' im im' t' o' (by rw [hk]; simp) hb hb0' hk' ht' hvd0' ho' hc
    · exact (mixed b' b im' im t o (by rw [hk']; simp) hb' hb0 hk ht hvd0 ho hc.symm).symm
    · exact I.inj b b' im im' t t' ht ht' hvd0 hvd0' hg hg' hb0 hb0' hc
  · intro c ob hc hn
    refine he.cfr c ob (I.cfr c ob hc hn) fun b im hb hk hcb => ?_
    obtain ⟨hbn, t, ht, hvd, hg⟩ := k1 b (by rw [hb]; simp) hk
    cases hb0 : φ0 b with
    | some im0 =>
      have := I.mono b im0 hb0; rw [hb] at this; cases this
      by_cases hlt : b < h0.nx
      · exact hn b im hb0 (I.live0 hR hlt t ht hvd.1 (by rw [hg]; exact hk)) hcb
      · rw [fr0 b (by omega) hbn] at hb0; cases hb0
    | none =>
      rcases I.newcb b im hb0 hb with h1 | ⟨b1, im1, h1, h2, h3⟩
      · have := lt_of_some hc; omega
      · exact hn b1 im1 h1 h2 (h3.trans hcb)
  · exact Nat.le_trans I.size he.size
  · intro b im hb0 hb
    cases hb1 : φ b with
    | some im1 =>
      have := he.mono b im1 hb1; rw [hb] at this; cases this
      exact I.newcb b im hb0 hb1
    | none =>
      rcases he.newcb b im hb1 hb with h1 | ⟨b1, im1, h1, h2, h3⟩
      · exact .inl (Nat.le_trans I.size h1)
      · obtain ⟨hbn, t, ht, hvd, hg⟩ := k1 b1 (by rw [h1]; simp) h2
        cases hb2 : φ0 b1 with
        | some im2 =>
          have := I.mono b1 im2 hb2; rw [h1] at this; cases this
          by_cases hlt : b1 < h0.nx
          · exact .inr ⟨b1, im1, hb2, I.live0 hR hlt t ht hvd.1 (by rw [hg]; exact h2), h3⟩
          · rw [fr0 b1 (by omega) hbn] at hb2; cases hb2
        | none =>
          rcases I.newcb b1 im1 hb2 h1 with h4 | ⟨b3, im3, g1, g2, g3⟩
          · exact .inl (by omega)
          · exact .inr ⟨b3, im3, g1, g2, g3.trans h3⟩
  · intro j hj hS d hd
    by_cases e : j = i
    · subst e
      rw [hd]
      have hlt := hnt d hd
      refine ⟨v', ?_, hv⟩
      show (ca.tmps.setIfInBounds d v')[d]? = some v'
      rw [Array.getElem?_setIfInBounds, if_pos rfl, if_pos (by rw [I.nt]; exact hlt)]
    · rcases hS with hS | hS
      · exact tmp d _ (I.tms j hj hS d hd) fun e' => e (hR.dist j i hj hi d hd e')
      · exact absurd hS e
  · intro d v hne hg
    exact tmp d v (I.old d v (fun j hj hS => hne j hj (.inl hS)) hg) (hne i hi (.inr rfl))
  · cases (R i).o.dst with
    | none => exact I.nt
    | some d => show (ca.tmps.setIfInBounds d v').size = a0.nt; rw [Array.size_setIfInBounds]; exact I.nt
  · have : (ca.put (R i).o.dst v').defers = ca.defers := by cases (R i).o.dst <;> rfl
    rw [this]
    exact I.df.mono he.mono
end
end Go.AE
