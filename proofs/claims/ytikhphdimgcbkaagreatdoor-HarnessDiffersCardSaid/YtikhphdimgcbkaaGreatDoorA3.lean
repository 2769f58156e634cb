/-
  A plain evaluator for the model's code, and the proof that what it answers is what every run does (part 3 of 3). No condition.
-/
import Derived.Recover
import Derived.Laws.StructEq
import Derived.Laws.Externs
import Derived.Lib.IndexMore
import Derived.Lib.Bytealg
import Derived.Shelf.SlMaps.Clone
import Derived.Test.YtikhphdimgcbkaaGreatDoorA2
set_option linter.unusedSectionVars false
set_option linter.unusedVariables false
set_option linter.unusedSimpArgs false
namespace Go.AE
variable [G : Glob]
set_option linter.unusedSectionVars false

/-! frames cut to what an operation looks at -/
noncomputable def Tr.only {α : Type} : Tr α → (Nat → Bool) → Tr α
  | .nil, _ => .nil
  | .node l o r, p => .node (l.only fun n => p (2 * n + 1)) (if p 0 then o else none) (r.only fun n => p (2 * n + 2))
theorem Tr.get_only {α : Type} : ∀ (t : Tr α) (p : Nat → Bool) (n : Nat), (t.only p).get n = if p n then t.get n else none
  | .nil, p, n => by simp [Tr.only, Tr.get_nil]
  | .node l o r, p, n => by
    simp only [Tr.only, Tr.get_node]
    cases n with
    | zero => rfl
    | succ m =>
      by_cases h : m % 2 = 0
      · simp only [h, if_true]
        rw [Tr.get_only l]
        have : 2 * (m / 2) + 1 = m + 1 := by omega
        rw [this]
      · simp only [h, if_false]
        rw [Tr.get_only r]
        have : 2 * (m / 2) + 2 = m + 1 := by omega
        rw [this]

theorem loose_ne {b b' : Nat} (h : looseS (some b) (some b') = true) : b ≠ b' := by
  intro e
  subst e
  have h : (!Nat.beq b b) = true := h
  rw [Nat.beq_refl] at h
  cases h

noncomputable def Act.only (a : Act) (l : List Nat) : Act := ⟨a.tm.only fun n => l.contains n, a.nt, a.df⟩
theorem Act.get_only (a : Act) (l : List Nat) (n : Nat) : (a.only l).tm.get n = if n ∈ l then a.tm.get n else none := by
  show (a.tm.only _).get n = _
  rw [Tr.get_only]
  simp

section
variable {P : Program} {E : Env} {ops : Array Oper} {a0 : Act} {h0 : Heap} {R : Nat → Rc} {mk : Nat → Nat}
variable {φ0 φ : Phi} {w0 w : World} {S : Nat → Prop} {ca : Go.Act}

theorem eval_only (a : Act) (o : Oper) (x : Operand) (hx : x ∈ o.op.operands) : (a.only (o.looksAt ops)).eval x = a.eval x := by
  cases x with
  | tmp t =>
    show (a.only _).tm.get t = a.tm.get t
    rw [Act.get_only, if_pos]
    exact List.mem_append_left _ (List.mem_filterMap.2 ⟨.tmp t, by simpa using hx, rfl⟩)
  | _ => rfl

theorem wants_only (a : Act) (o : Oper) : wants (a.only (o.looksAt ops)) ops.toList o.guard = wants a ops.toList o.guard := by
  cases hg : o.guard with
  | none => rfl
  | some p =>
    obtain ⟨j, want⟩ := p
    show wants2 _ want (listGet ops.toList j) = wants2 _ want (listGet ops.toList j)
    rw [listGet_eq]
    unfold wants2
    split
    · rename_i d _ _ _ _ _ hoj
      rw [Act.get_only, if_pos]
      refine List.mem_append_right _ ?_
      rw [hg]
      have : (ops[j]?).bind (·.dst) = some d := by rw [← Array.getElem?_toList, hoj]; rfl
      simp [this]
    · rfl

theorem Run.mask_lt (hR : Run P E ops a0 h0 R mk) : ∀ i, i < ops.size → ∀ j, (mk i).testBit j = true → j < i := by
  intro i
  induction i using Nat.strongRecOn with
  | ind i ih =>
    intro hi j hj
    obtain ⟨e, he, hb, h⟩ := hR.mask i hi j hj
    have hlt := hR.back i hi e he hb
    rcases h with rfl | h
    · exact hlt
    · have := ih e.on hlt (by omega) j h
      omega

/-! frames in the order of the text -/
theorem Run.frame (hR : Run P E ops a0 h0 R mk) (hsm : a0.nt ≤ 500000) : ∀ i, i ≤ ops.size → (R i).a.nt = a0.nt ∧ (R i).a.df = a0.df ∧
    (∀ j d, j < i → (R j).o.dst = some d → (R i).a.tm.get d = some (R j).v) ∧ ∀ d, (∀ j, j < i → (R j).o.dst ≠ some d) → (R i).a.tm.get d = a0.tm.get d := by
  intro i
  induction i with
  | zero => intro _; rw [hR.a0]; exact ⟨rfl, rfl, fun j d h => by omega, fun d _ => rfl⟩
  | succ i ih =>
    intro hi
    obtain ⟨h1, h2, h3, h4⟩ := ih (by omega)
    rw [hR.as i (by omega)]
    cases hd : (R i).o.dst with
    | none =>
      refine ⟨h1, h2, fun j d hj hjd => ?_, fun d hn => h4 d fun j hj => hn j (by omega)⟩
      by_cases e : j = i
      · subst e; rw [hd] at hjd; cases hjd
      · exact h3 j d (by omega) hjd
    | some d0 =>
      have hlt := hR.dst i (by omega) d0 hd
      rw [h1] at hlt
      have hbig : d0 + 1 < 2 ^ 20 := Nat.lt_of_le_of_lt (Nat.succ_le_of_lt hlt) (by omega)
      refine ⟨h1, h2, fun j d hj hjd => ?_, fun d hn => ?_⟩
      · show ((R i).a.tm.setT 20 d0 (some (R i).v)).get d = _
        rw [Tr.get_setT 20 _ _ _ _ hbig]
        by_cases e : j = i
        · subst e; rw [hd] at hjd; cases hjd; rw [if_pos rfl]
        · rw [if_neg]
          · exact h3 j d (by omega) hjd
          · intro e'; subst e'
            exact e (hR.dist j i (by omega) (by omega) d hjd hd)
      · show ((R i).a.tm.setT 20 d0 (some (R i).v)).get d = _
        rw [Tr.get_setT 20 _ _ _ _ hbig, if_neg]
        · exact h4 d fun j hj => hn j (by omega)
        · intro e; subst e; exact hn i (by omega) hd

theorem Inv.arel (hR : Run P E ops a0 h0 R mk) (I : Inv ops.size R mk a0 h0 φ0 w0 S φ w ca) (hsm : a0.nt ≤ 500000) {i : Nat} (hi : i < ops.size) (hS : ¬ S i) (hdown : ∀ j, (mk i).testBit j = true → S j) :
    ARel φ ((R i).a.only ((R i).o.looksAt ops)) ca := by
  obtain ⟨h1, h2, h3, h4⟩ := hR.frame hsm i (by omega)
  refine ⟨fun t v hg => ?_, I.nt.trans h1.symm, by show (R i).a.nt ≤ _; omega, by show DRels φ (R i).a.df _; rw [h2]; exact I.df⟩
  rw [Act.get_only] at hg
  split at hg
  · rename_i hmem
    have rest : (∀ j, j < i → (R j).o.dst ≠ some t) → (∀ j, j < ops.size → S j → (R j).o.dst ≠ some t) → ∃ v', ca.tmps[t]? = some v' ∧ VRel φ v v' := by
      intro ha hb
      rw [h4 t ha] at hg
      exact I.old t v hb hg
    by_cases hex : ∃ j, j < ops.size ∧ (R j).o.dst = some t
    · obtain ⟨j, hj, hjd⟩ := hex
      rcases hR.look i j hi hj t hjd hmem with hb | hb
      · have hlt := hR.mask_lt i hi j hb
        rw [h3 j t hlt hjd] at hg
        cases hg
        exact I.tms j hj (hdown j hb) t hjd
      · have hlt := hR.mask_lt j hj i hb
        have hjS : ¬ S j := fun h => hS (I.down j hj h i hb)
        refine rest (fun k hk e => ?_) fun k hk hSk e => ?_
        · have := hR.dist k j (by omega) hj t e hjd; omega
        · have := hR.dist k j hk hj t e hjd
          subst this; exact hjS hSk
    · exact rest (fun j hj e => hex ⟨j, by omega, e⟩) fun j hj _ e => hex ⟨j, hj, e⟩
  · cases hg

/-! each operation -/
theorem wrel_nil (I : Inv ops.size R mk a0 h0 φ0 w0 S φ w ca) {m : Nat} (hm : m ≤ bigN) : WRel φ ⟨.nil, m⟩ w :=
  ⟨fun b o im hg => by simp [Heap.get, Tr.get_nil] at hg, I.dom, fun b b' im im' hg => by simp [Heap.get, Tr.get_nil] at hg, fun b _ => rfl, hm, I.base, fun b im hg => by simp [Heap.get, Tr.get_nil] at hg⟩

theorem nil_get (m b : Nat) : (⟨.nil, m⟩ : Heap).get b = none := rfl

variable (hR : Run P E ops a0 h0 R mk) (hE : E.Typed P) (hQ : E.Eqs P) (hM : E.Meths P) (I : Inv ops.size R mk a0 h0 φ0 w0 S φ w ca) (h0t : Tp h0) (fr0 : Fresh φ0 h0.nx (R ops.size).h.nx) (hsm : a0.nt ≤ 500000)
variable {i : Nat} (hi : i < ops.size) (hS : ¬ S i) (hdown : ∀ j, (mk i).testBit j = true → S j)
variable {Kt : Go.Act → World → Prop} {Q : Exit → Go.Act → World → Prop}
  (hK : ∀ φ' ca' w', Inv ops.size R mk a0 h0 φ0 w0 (plus S i) φ' w' ca' → Kt ca' w')
include hR I fr0 hsm hi hdown

theorem nt_of : ∀ d, (R i).o.dst = some d → d < a0.nt := fun d hd => by
  have := hR.dst i hi d hd
  rw [(hR.frame hsm i (by omega)).1] at this
  exact this

/-- an operation that leaves the heap as it is -/
theorem still_step (hsame : (R (i + 1)).h = (R i).h) {K : Heap} {φ' : Phi} {w' : World} {v' : Value}
    (k1 : ∀ b, φ b ≠ none → K.get b ≠ none → b < (R ops.size).h.nx ∧ ∃ t, t ≤ ops.size ∧ Vd ops.size R S b t ∧ (R t).h.get b = K.get b)
    (hw' : WRel φ' K w') (he : Ext φ K w φ' K w') (hv : VRel φ' (R i).v v') : Inv ops.size R mk a0 h0 φ0 w0 (plus S i) φ' w' (ca.put (R i).o.dst v') := by
  have hdm : ∀ b, φ b = none → φ' b = none := fun b hb => by
    apply Classical.byContradiction; intro hn
    have := he.dom b hb hn; omega
  refine I.advance hR fr0 hi hdown k1 hw' he (fun b h1 h2 => by omega) (fun b hb hn => absurd (hdm b hb) hn) (fun b im t o ht hb hvd hg => ?_) (fun b _ _ => by rw [hsame]) (fun b _ hn => by rw [hsame] at hn; exact hn) (fun h => by rw [hsame]; exact h)
    (nt_of hR I fr0 hsm hi hdown) hv
  have hb0 : φ b = some im := by
    cases h : φ b with
    | none => rw [hdm b h] at hb; cases hb
    | some im0 => have := he.mono b im0 h; rw [hb] at this; cases this; rfl
  have hvd0 : Vd ops.size R S b t := ⟨fun s h1 h2 h3 => by
    by_cases e : s = i
    · subst e; rw [hsame]
    · exact hvd.1 s h1 h2 fun h => h.elim h3 e, fun s h1 h2 h3 => hvd.2.1 s h1 h2 (.inl h3), hvd.2.2⟩
  cases hk : K.get b with
  | none => exact .inr ⟨hb0, rfl, hvd0⟩
  | some o1 =>
    obtain ⟨_, t', ht', hvd', hg'⟩ := k1 b (by rw [hb0]; simp) (by rw [hk]; simp)
    rw [← Vd.unique hvd0 hvd' ht ht', hg, hk] at hg'
    exact .inl hg'.symm

include hS h0t

theorem new_step {ob : AO} (hna : (R i).wt.st ≠ some none) (hnew : (R (i + 1)).h = (R i).h.new ob) (hbig : (R i).h.nx < bigN) {φ' : Phi} {w' : World} {v' : Value}
    (hw' : WRel φ' (Heap.new ⟨.nil, (R i).h.nx⟩ ob) w') (he : Ext φ ⟨.nil, (R i).h.nx⟩ w φ' (Heap.new ⟨.nil, (R i).h.nx⟩ ob) w') (hv : VRel φ' (R i).v v') : Inv ops.size R mk a0 h0 φ0 w0 (plus S i) φ' w' (ca.put (R i).o.dst v') := by
  have hnx : (R (i + 1)).h.nx = (R i).h.nx + 1 := by rw [hnew]; rfl
  have hg1 : ∀ b, (R (i + 1)).h.get b = if b = (R i).h.nx then some ob else (R i).h.get b := fun b => by rw [hnew]; exact Heap.get_new hbig b
  have hk' : ∀ b, (Heap.new ⟨.nil, (R i).h.nx⟩ ob).get b = if b = (R i).h.nx then some ob else none := fun b => by rw [Heap.get_new (by exact hbig)]; rfl
  have hno : φ (R i).h.nx = none := I.none_of hR fr0 hi hS (Nat.le_refl _) (by omega)
  have hdm : ∀ b, b ≠ (R i).h.nx → φ b = none → φ' b = none := fun b hb hn => by
    apply Classical.byContradiction; intro hh
    have h1 := (he.dom b hn hh).1
    have h2 := (he.dom b hn hh).2
    have h1 : (R i).h.nx ≤ b := h1
    have h2 : b < (R i).h.nx + 1 := h2
    omega
  refine I.advance hR fr0 hi hdown (K := ⟨.nil, (R i).h.nx⟩) (fun b _ hk => absurd rfl hk) hw' he (fun b h1 h2 => ?_) (fun b hb hn => ?_) (fun b im t o ht hb hvd hg => ?_) (fun b hb _ => by rw [hg1, if_neg (by omega)]) (fun b hb hn => ?_)
    (hR.tp1 hi hna) (nt_of hR I fr0 hsm hi hdown) hv
  · have h1 : (R i).h.nx ≤ b := h1
    have h2 : b < (R i).h.nx + 1 := h2
    have : b = (R i).h.nx := by omega
    rw [this]; exact hno
  · by_cases e : b = (R i).h.nx
    · subst e; omega
    · exact absurd (hdm b e hb) hn
  · by_cases e : b = (R i).h.nx
    · left
      subst e
      rw [hk', if_pos rfl]
      have hti : i < t := by
        apply Classical.byContradiction; intro hh
        have := hR.nx (show t ≤ i by omega) (by omega)
        have := hvd.2.2
        omega
      have : ∀ k, i + 1 + k ≤ t → (R (i + 1 + k)).h.get (R i).h.nx = some ob := by
        intro k
        induction k with
        | zero => intro _; rw [Nat.add_zero, hg1, if_pos rfl]
        | succ k ih =>
          intro hk
          have h1 := ih (by omega)
          show (R (i + 1 + k + 1)).h.get _ = _
          by_cases hSk : S (i + 1 + k)
          · have := hR.nx (show i + 1 ≤ i + 1 + k by omega) (by omega)
            rw [I.afr (i + 1 + k) (by omega) hSk _ (by omega) hno]; exact h1
          · rw [hvd.1 (i + 1 + k) (by omega) (by omega) fun h => h.elim hSk (by omega)]; exact h1
      have := this (t - (i + 1)) (by omega)
      rw [show i + 1 + (t - (i + 1)) = t by omega, hg] at this
      exact this.symm
    · right
      have hb0 : φ b = some im := by
        cases h : φ b with
        | none => rw [hdm b e h] at hb; cases hb
        | some im0 => have := he.mono b im0 h; rw [hb] at this; cases this; rfl
      refine ⟨hb0, rfl, fun s h1 h2 h3 => ?_, fun s h1 h2 h3 => hvd.2.1 s h1 h2 (.inl h3), hvd.2.2⟩
      by_cases es : s = i
      · subst es; rw [hg1, if_neg e]
      · exact hvd.1 s h1 h2 fun h => h.elim h3 es
  · rw [hg1] at hn
    rw [if_neg (by omega)] at hn; exact hn

/-- all that acts ahead of it, and nothing behind it, was done -/
theorem pos_act (hact : (R i).wt.st = some none) : Pos ops.size R S i := by
  refine ⟨by omega, fun s hs ha => ?_⟩
  obtain ⟨st, hst⟩ := Option.ne_none_iff_exists'.1 ha
  constructor
  · intro hlt
    rcases hR.chain i hi _ hact s hlt _ hst with h | h
    · exact hdown s h
    · exact absurd h (by simp [looseS])
  · intro hSs
    apply Classical.byContradiction; intro hge
    by_cases e : s = i
    · subst e; exact hS hSs
    · rcases hR.chain s hs _ hst i (by omega) _ hact with h | h
      · exact hS (I.down s hs hSs i h)
      · exact absurd h (by cases st <;> simp [looseS])

theorem act_step (hact : (R i).wt.st = some none) {φ' : Phi} {w' : World} {v' : Value}
    (hw' : WRel φ' (R (i + 1)).h w') (he : Ext φ (R i).h w φ' (R (i + 1)).h w') (hv : VRel φ' (R i).v v') : Inv ops.size R mk a0 h0 φ0 w0 (plus S i) φ' w' (ca.put (R i).o.dst v') := by
  have hp := pos_act hR I h0t fr0 hsm hi hS hdown hact
  have htp := I.tpAt hR h0t i (by omega) fun s hs ha => (hp.2 s (by omega) (by rw [ha]; simp)).1 hs
  have hnx := hR.nx1 hi
  have hlast := hR.nx (show i + 1 ≤ ops.size by omega) (Nat.le_refl _)
  refine I.advance hR fr0 hi hdown (K := (R i).h) (K' := (R (i + 1)).h) (fun b hb hk => ?_) hw' he (fun b h1 h2 => I.none_of hR fr0 hi hS h1 h2) (fun b hb hn => he.dom b hb hn) (fun b im t o ht hb hvd hg => ?_)
    (fun b hb hn => he.afr b hb hn) (fun b hb hn => he.live b hb hn) (fun _ => ⟨hw'.top, hw'.small⟩) (nt_of hR I fr0 hsm hi hdown) hv
  · refine ⟨?_, i, by omega, I.vdPos hR h0t fr0 hp hb hk, rfl⟩
    apply Classical.byContradiction; intro hh
    exact hk (htp.1 b (by omega))
  · by_cases hti : t ≤ i
    · left
      have hbi : b < (R i).h.nx := Nat.lt_of_lt_of_le hvd.2.2 (hR.nx hti (by omega))
      have hb0 : φ b ≠ none := by
        intro h
        have := he.dom b h (by rw [hb]; simp); omega
      rw [hvd.2.1 i hti hi (.inr rfl), ← hg]
      have : ∀ k, t + k ≤ i → (R (t + k)).h.get b = (R t).h.get b := by
        intro k
        induction k with
        | zero => intro _; rfl
        | succ k ih =>
          intro hk
          rw [← ih (by omega)]
          by_cases hSk : S (t + k)
          · exact hvd.2.1 (t + k) (by omega) (by omega) (.inl hSk)
          · refine I.unch hR fr0 (by omega) hSk ?_ hb0
            cases ha : (R (t + k)).wt.st with
            | none => rfl
            | some st => exact absurd ((hp.2 (t + k) (by omega) (by rw [ha]; simp)).1 (by omega)) hSk
      have := this (i - t) (by omega)
      rwa [show t + (i - t) = i by omega] at this
    · by_cases hbi : b < (R (i + 1)).h.nx
      · left
        have : ∀ k, i + 1 + k ≤ t → (R (i + 1 + k)).h.get b = (R (i + 1)).h.get b := by
          intro k
          induction k with
          | zero => intro _; rfl
          | succ k ih =>
            intro hk
            rw [← ih (by omega)]
            show (R (i + 1 + k + 1)).h.get b = _
            by_cases hSk : S (i + 1 + k)
            · refine hR.plain_get (by omega) ?_ (.inl ?_)
              · cases ha : (R (i + 1 + k)).wt.st with
                | none => rfl
                | some st => have := (hp.2 (i + 1 + k) (by omega) (by rw [ha]; simp)).2 hSk; omega
              · have := hR.nx (show i + 1 ≤ i + 1 + k by omega) (by omega); omega
            · exact hvd.1 (i + 1 + k) (by omega) (by omega) fun h => h.elim hSk (by omega)
        have := this (t - (i + 1)) (by omega)
        rw [show i + 1 + (t - (i + 1)) = t by omega, hg] at this
        exact this.symm
      · right
        have hb0 : φ b = some im := by
          cases h : φ b with
          | none => have := he.dom b h (by rw [hb]; simp); omega
          | some im0 => have := he.mono b im0 h; rw [hb] at this; cases this; rfl
        refine ⟨hb0, htp.1 b (by omega), fun s h1 h2 h3 => ?_, fun s h1 h2 h3 => hvd.2.1 s h1 h2 (.inl h3), hvd.2.2⟩
        by_cases es : s = i
        · subst es; rw [htp.1 b (by omega), hw'.top b (by omega)]
        · exact hvd.1 s h1 h2 fun h => h.elim h3 es

/-- the store's block, as the heap knows it ahead of the store, is as it is now -/
theorem vd_store {b : Nat} {x : AO} (hst : (R i).wt = .store b x) (hb : φ b ≠ none) : Vd ops.size R S b i := by
  have hbase : ∀ s, s < ops.size → (∀ j, j < s → (R j).wt.st = some none → S j) → Tp (R s).h := fun s hs h => I.tpAt hR h0t s (by omega) h
  have hact : (R i).wt.st = some (some b) := by rw [hst]; rfl
  have hti : Tp (R i).h := hbase i hi fun j hj ha => by
    rcases hR.chain i hi _ hact j hj _ ha with h | h
    · exact hdown j h
    · exact absurd h (by simp [looseS])
  have hok := hR.step i hi
  rw [hst] at hok
  obtain ⟨⟨y, hy⟩, _, _⟩ := store_local hok.1 hok.2.1
  have hlt : b < (R i).h.nx := by
    apply Classical.byContradiction; intro hh
    rw [hti.1 b (by omega)] at hy; cases hy
  -- a store that was done or not, unordered with this one
  have other : ∀ s, s < ops.size → ∀ b', (R s).wt.st = some (some b') → Tp (R s).h → b ≠ b' → (R (s + 1)).h.get b = (R s).h.get b := by
    intro s hs b' ha htp hne
    cases hw : (R s).wt with
    | store b'' x'' =>
      rw [hw] at ha
      have ha : some (some b'') = some (some b') := ha
      cases ha
      have hoks := hR.step s hs
      rw [hw] at hoks
      obtain ⟨⟨y', hy'⟩, _, _⟩ := store_local hoks.1 hoks.2.1
      have : b' < (R s).h.nx := by
        apply Classical.byContradiction; intro hh
        rw [htp.1 b' (by omega)] at hy'; cases hy'
      exact hR.store_get hs hw (by have := htp.2; omega) hne
    | _ => rw [hw] at ha; cases ha
  refine ⟨fun s hs hsn hSs => ?_, fun s hs hsn hSs => ?_, hlt⟩
  · cases ha : (R s).wt.st with
    | none => exact I.unch hR fr0 hsn hSs ha hb
    | some st =>
      rcases hR.chain i hi _ hact s hs _ ha with h | h
      · exact absurd (hdown s h) hSs
      · cases st with
        | none => exact absurd h (by simp [looseS])
        | some b' =>
          refine other s hsn b' ha (hbase s hsn fun j hj haj => ?_) ?_
          · rcases hR.chain i hi _ hact j (by omega) _ haj with h | h
            · exact hdown j h
            · exact absurd h (by simp [looseS])
          · exact loose_ne h
  · have hne : s ≠ i := by intro e; subst e; exact hS hSs
    cases ha : (R s).wt.st with
    | none =>
      refine hR.plain_get hsn ha (.inl ?_)
      have := hR.nx hs (by omega); omega
    | some st =>
      rcases hR.chain s hsn _ ha i (by omega) _ hact with h | h
      · exact absurd (I.down s hsn hSs i h) hS
      · cases st with
        | none => exact absurd h (by simp [looseS])
        | some b' =>
          refine other s hsn b' ha (hbase s hsn fun j hj haj => ?_) ?_
          · rcases hR.chain s hsn _ ha j hj _ haj with h | h
            · exact I.down s hsn hSs j h
            · exact absurd h (by simp [looseS])
          · exact fun e => loose_ne h e.symm

/-- a heap of one block -/
noncomputable def onlyAt (b : Nat) (o : Option AO) (m : Nat) : Heap := ⟨Tr.setT 40 .nil b o, m⟩
omit hR I h0t fr0 hsm hi hS hdown in
theorem onlyAt_get {b m : Nat} {o : Option AO} (hb : b < bigN) (c : Nat) : (onlyAt b o m).get c = if c = b then o else none := by
  show (Tr.setT 40 .nil b o).get c = _
  rw [Tr.get_setT 40 _ _ _ _ (by unfold bigN at hb; omega), Tr.get_nil]

theorem store_wrel {b : Nat} {x : AO} (hst : (R i).wt = .store b x) (hb : φ b ≠ none) : WRel φ (onlyAt b ((R i).h.get b) (R i).h.nx) w ∧ b < bigN := by
  have hvd := vd_store hR I h0t fr0 hsm hi hS hdown hst hb
  have hti : Tp (R i).h := I.tpAt hR h0t i (by omega) fun j hj ha => by
    rcases hR.chain i hi (some b) (by rw [hst]; rfl) j hj _ ha with h | h
    · exact hdown j h
    · exact absurd h (by simp [looseS])
  have hbig : b < bigN := by have := hvd.2.2; have := hti.2; omega
  have hget := fun c => onlyAt_get (o := (R i).h.get b) (m := (R i).h.nx) hbig c
  have hgl : ∀ c im, (onlyAt b ((R i).h.get b) (R i).h.nx).get c ≠ none → φ c = some im → G.gN ≤ im.cb := by
    intro c im hg hc
    rw [hget] at hg
    split at hg
    · rename_i e; subst e
      exact I.glob c im i (by omega) hvd hg hc
    · exact absurd rfl hg
  refine ⟨⟨fun c o im hg hc => ?_, I.dom, fun c c' im im' hg hg' _ _ _ => ?_, fun c hc => ?_, hti.2, I.base, hgl⟩, hbig⟩
  · rw [hget] at hg
    split at hg
    · rename_i e; subst e
      exact I.live c im i o (by omega) hvd hc hg
    · cases hg
  · rw [hget] at hg hg'
    split at hg
    · split at hg'
      · rename_i e e'; rw [e, e']
      · exact absurd rfl hg'
    · exact absurd rfl hg
  · rw [hget, if_neg]
    intro e; subst e
    have hc : (R i).h.nx ≤ c := hc
    have := hvd.2.2; omega

theorem store_step {b : Nat} {x : AO} (hst : (R i).wt = .store b x) (hb : φ b ≠ none) {φ' : Phi} {w' : World} {v' : Value}
    (hw' : WRel φ' ((onlyAt b ((R i).h.get b) (R i).h.nx).put b x) w') (he : Ext φ (onlyAt b ((R i).h.get b) (R i).h.nx) w φ' ((onlyAt b ((R i).h.get b) (R i).h.nx).put b x) w') (hv : VRel φ' (R i).v v') :
    Inv ops.size R mk a0 h0 φ0 w0 (plus S i) φ' w' (ca.put (R i).o.dst v') := by
  have hvd := vd_store hR I h0t fr0 hsm hi hS hdown hst hb
  obtain ⟨_, hbig⟩ := store_wrel hR I h0t fr0 hsm hi hS hdown hst hb
  have hget := fun c => onlyAt_get (o := (R i).h.get b) (m := (R i).h.nx) hbig c
  have hok := hR.step i hi
  rw [hst] at hok
  obtain ⟨⟨y, hy⟩, _, _⟩ := store_local hok.1 hok.2.1
  have hg1 : ∀ c, (R (i + 1)).h.get c = if c = b then some x else (R i).h.get c := fun c => by rw [hR.hs i hi, hok.2.2, Heap.get_put hbig]
  have hk' : ∀ c, ((onlyAt b ((R i).h.get b) (R i).h.nx).put b x).get c = if c = b then some x else none := fun c => by
    rw [Heap.get_put hbig, hget]
    split <;> rfl
  have hdm : ∀ c, φ c = none → φ' c = none := fun c hc => by
    apply Classical.byContradiction; intro hn
    have h1 := (he.dom c hc hn).1
    have h2 := (he.dom c hc hn).2
    have h1 : (R i).h.nx ≤ c := h1
    have h2 : c < (R i).h.nx := h2
    omega
  have hna : (R i).wt.st ≠ some none := by
    rw [hst]; intro h
    have h : some (some b) = some none := h
    cases h
  refine I.advance hR fr0 hi hdown (fun c hc hk => ?_) hw' he (fun c h1 h2 => ?_) (fun c hc hn => absurd (hdm c hc) hn) (fun c im t o ht hc hvdp hg => ?_) (fun c hc hn => ?_) (fun c hc hn => ?_) (hR.tp1 hi hna) (nt_of hR I fr0 hsm hi hdown) hv
  · rw [hget] at hk
    split at hk
    · rename_i e; subst e
      exact ⟨by have := hvd.2.2; have := hR.nx (show i ≤ ops.size by omega) (Nat.le_refl _); omega, i, by omega, hvd, by rw [hget, if_pos rfl]⟩
    · exact absurd rfl hk
  · have h1 : (R i).h.nx ≤ c := h1
    have h2 : c < (R i).h.nx := h2
    omega
  · have hc0 : φ c = some im := by
      cases h : φ c with
      | none => rw [hdm c h] at hc; cases hc
      | some im0 => have := he.mono c im0 h; rw [hc] at this; cases this; rfl
    by_cases e : c = b
    · left
      subst e
      rw [hk', if_pos rfl]
      by_cases hti : t ≤ i
      · have hvt : Vd ops.size R S c t := ⟨fun s h1 h2 h3 => hvdp.1 s h1 h2 fun h => h.elim h3 (by omega), fun s h1 h2 h3 => hvdp.2.1 s h1 h2 (.inl h3), hvdp.2.2⟩
        have h1 := hvdp.2.1 i hti hi (.inr rfl)
        rw [hg1, if_pos rfl, ← Vd.unique hvt hvd ht (by omega), hg] at h1
        exact h1
      · have : ∀ k, i + 1 + k ≤ t → (R (i + 1 + k)).h.get c = some x := by
          intro k
          induction k with
          | zero => intro _; rw [Nat.add_zero, hg1, if_pos rfl]
          | succ k ih =>
            intro hk
            have h1 := ih (by omega)
            show (R (i + 1 + k + 1)).h.get c = _
            by_cases hSk : S (i + 1 + k)
            · rw [hvd.2.1 (i + 1 + k) (by omega) (by omega) hSk]; exact h1
            · rw [hvdp.1 (i + 1 + k) (by omega) (by omega) fun h => h.elim hSk (by omega)]; exact h1
        have := this (t - (i + 1)) (by omega)
        rw [show i + 1 + (t - (i + 1)) = t by omega, hg] at this
        exact this.symm
    · right
      refine ⟨hc0, by rw [hget, if_neg e], fun s h1 h2 h3 => ?_, fun s h1 h2 h3 => hvdp.2.1 s h1 h2 (.inl h3), hvdp.2.2⟩
      by_cases es : s = i
      · subst es; rw [hg1, if_neg e]
      · exact hvdp.1 s h1 h2 fun h => h.elim h3 es
  · rw [hg1, if_neg]
    intro e; subst e; exact hb hn
  · rw [hg1] at hn
    by_cases e : c = b
    · subst e; rw [hy]; simp
    · rw [if_neg e] at hn; exact hn
end
end Go.AE

namespace Go.AE
variable [G : Glob]
set_option linter.unusedSectionVars false
section
variable {P : Program} {E : Env} {ops : Array Oper} {a0 : Act} {h0 : Heap} {R : Nat → Rc} {mk : Nat → Nat}
variable {φ0 φ : Phi} {w0 w : World} {S : Nat → Prop} {ca : Go.Act}

theorem op_any (hR : Run P E ops a0 h0 R mk) (hE : E.Typed P) (hQ : E.Eqs P) (hM : E.Meths P) (I : Inv ops.size R mk a0 h0 φ0 w0 S φ w ca) (h0t : Tp h0) (fr0 : Fresh φ0 h0.nx (R ops.size).h.nx) (hsm : a0.nt ≤ 500000)
    {i : Nat} (hi : i < ops.size) (hS : ¬ S i) (hdown : ∀ j, (mk i).testBit j = true → S j) {Kt : Go.Act → World → Prop} {Q : Exit → Go.Act → World → Prop}
    (hK : ∀ φ' ca' w', Inv ops.size R mk a0 h0 φ0 w0 (plus S i) φ' w' ca' → Kt ca' w') : wpOp P ops Q i Kt ca w := by
  have ha := I.arel hR hsm hi hS hdown
  have hcong : ∀ h, opFn (R i).o.op E ((R i).a.only ((R i).o.looksAt ops)) h = opFn (R i).o.op E (R i).a h := fun h => opFn_congr E h _ fun x hx => eval_only _ _ x hx
  have hwn := hR.wants i hi
  rw [← wants_only (ops := ops)] at hwn
  have hwr := wants_rel ha hwn
  have hst := hR.step i hi
  unfold wpOp
  rw [hR.op i hi]
  simp only []
  cases hw : (R i).wt with
  | skip =>
    rw [hw] at hwr hst
    rw [if_neg (by rw [hwr]; simp)]
    refine hK φ _ w (still_step hR I fr0 hsm hi hdown (K := ⟨.nil, 0⟩) (by rw [hR.hs i hi, hst.2]) (fun b _ hk => absurd rfl hk) (wrel_nil I (Nat.zero_le _)) (Ext.refl _ _ _) ?_)
    rw [hst.1]; exact unit_rel φ
  | free new =>
    rw [hw] at hwr hst
    rw [if_pos hwr]
    refine .inl ?_
    cases new with
    | none =>
      obtain ⟨hk, hop, hh2, hnx⟩ := hst
      have hop' : opFn (R i).o.op E ((R i).a.only ((R i).o.looksAt ops)) ⟨.nil, (R i).h.nx⟩ = .val (R i).v := by
        rw [hcong, ← opFn_free E (R i).h _ hk]; exact hop
      refine opok_wp (op_sound hE hQ hM (wrel_nil I hnx) ha (v := (R i).v) (h' := ⟨.nil, (R i).h.nx⟩) (by rw [hop']; rfl)) (fun b h1 h2 => by omega) fun v' w' φ' hw' hext hvr => ?_
      exact hK φ' _ w' (still_step hR I fr0 hsm hi hdown (K := ⟨.nil, (R i).h.nx⟩) (by rw [hR.hs i hi, hh2]) (fun b _ hk => absurd rfl hk) hw' hext hvr)
    | some ob =>
      obtain ⟨hk, hop, hh2, hnx⟩ := hst
      have hop' : opFn (R i).o.op E ((R i).a.only ((R i).o.looksAt ops)) ⟨.nil, (R i).h.nx⟩ = .new ob (R i).v := by
        rw [hcong, ← opFn_free E (R i).h _ hk]; exact hop
      have happ : applyR ⟨.nil, (R i).h.nx⟩ (.new ob (R i).v) = some ((R i).v, Heap.new ⟨.nil, (R i).h.nx⟩ ob) := if_pos hnx
      have hnew : (R (i + 1)).h = (R i).h.new ob := by rw [hR.hs i hi, hh2]
      refine opok_wp (op_sound hE hQ hM (wrel_nil I (Nat.le_of_lt hnx)) ha (v := (R i).v) (h' := Heap.new ⟨.nil, (R i).h.nx⟩ ob) (by rw [hop']; exact happ)) (fun b h1 h2 => ?_) fun v' w' φ' hw' hext hvr => ?_
      · have h1 : (R i).h.nx ≤ b := h1
        have h2 : b < (R i).h.nx + 1 := h2
        exact I.none_of hR fr0 hi hS h1 (by rw [hnew]; exact h2)
      · exact hK φ' _ w' (new_step hR I h0t fr0 hsm hi hS hdown (by rw [hw]; intro h; cases h) hnew hnx hw' hext hvr)
  | read =>
    rw [hw] at hwr hst
    rw [if_pos hwr]
    refine .inl ?_
    obtain ⟨t, ht, hop, hpos⟩ := hR.reads i hi hw S hdown (fun j hj hSj k hk => I.down j hj hSj k hk) hS
    have hp : Pos ops.size R S t := ⟨ht, hpos⟩
    have hop' : opFn (R i).o.op E ((R i).a.only ((R i).o.looksAt ops)) (R t).h = .val (R i).v := by rw [hcong]; exact hop
    have htp := I.tpAt hR h0t t ht fun s hs ha => (hpos s (by omega) (by rw [ha]; simp)).1 hs
    refine opok_wp (op_sound hE hQ hM (I.wrelPos hR h0t fr0 hp) ha (v := (R i).v) (h' := (R t).h) (by rw [hop']; rfl)) (fun b h1 h2 => by omega) fun v' w' φ' hw' hext hvr => ?_
    refine hK φ' _ w' (still_step hR I fr0 hsm hi hdown (K := (R t).h) (by rw [hR.hs i hi, hst.2]) (fun b hb hk => ?_) hw' hext hvr)
    refine ⟨?_, t, ht, I.vdPos hR h0t fr0 hp hb hk, rfl⟩
    apply Classical.byContradiction; intro hh
    have := hR.nx ht (Nat.le_refl _)
    exact hk (htp.1 b (by omega))
  | act =>
    have hact : (R i).wt.st = some none := by rw [hw]; rfl
    have hp := pos_act hR I h0t fr0 hsm hi hS hdown hact
    have hwrel := I.wrelPos hR h0t fr0 hp
    have hfr : Fresh φ (R i).h.nx (R (i + 1)).h.nx := fun b h1 h2 => I.none_of hR fr0 hi hS h1 h2
    rw [hw] at hwr hst
    rw [if_pos hwr]
    refine .inl ?_
    rcases hst.1 with ⟨hcall, f, xs, hop, hcv⟩ | hop
    · obtain ⟨args', hargs, hrun⟩ := call_sound (w := w) hM ha hcall ((hcong _).trans hop)
      refine does_wp hrun (hcv φ w args' hwrel hargs (by rw [← hR.hs i hi]; exact hfr)) fun e w' ⟨v', φ', he', hw', hext, hvr⟩ => ⟨v', he', ?_⟩
      rw [← hR.hs i hi] at hw' hext
      exact hK φ' _ w' (act_step hR I h0t fr0 hsm hi hS hdown hact hw' hext hvr)
    · refine opok_wp (op_sound hE hQ hM hwrel ha (v := (R i).v) (h' := (R (i + 1)).h) (by rw [hcong, hR.hs i hi]; exact hop)) hfr fun v' w' φ' hw' hext hvr => ?_
      exact hK φ' _ w' (act_step hR I h0t fr0 hsm hi hS hdown hact hw' hext hvr)
  | store b x =>
    rw [hw] at hwr hst
    rw [if_pos hwr]
    refine .inl ?_
    obtain ⟨hk, hop, hh2⟩ := hst
    obtain ⟨_, ⟨p, off, hp, hpe⟩, hloc⟩ := store_local hk hop
    have hb : φ b ≠ none := by
      have := ha.eval (x := p) (v := .ptr b off) (by rw [eval_only _ _ p hp]; exact hpe)
      simp only [VRel] at this
      obtain ⟨im, h1, _⟩ := this
      rw [h1]; simp
    obtain ⟨hwrel, hbig⟩ := store_wrel hR I h0t fr0 hsm hi hS hdown hw hb
    have hget := onlyAt_get (o := (R i).h.get b) (m := (R i).h.nx) hbig b
    rw [if_pos rfl] at hget
    have hop' : opFn (R i).o.op E ((R i).a.only ((R i).o.looksAt ops)) (onlyAt b ((R i).h.get b) (R i).h.nx) = .set b x (R i).v := by
      rw [hcong]; exact hloc _ hget
    refine opok_wp (op_sound hE hQ hM hwrel ha (v := (R i).v) (h' := (onlyAt b ((R i).h.get b) (R i).h.nx).put b x) (by rw [hop']; rfl)) (fun c h1 h2 => ?_) fun v' w' φ' hw' hext hvr => ?_
    · have h1 : (R i).h.nx ≤ c := h1
      have h2 : c < (R i).h.nx := h2
      omega
    · exact hK φ' _ w' (store_step hR I h0t fr0 hsm hi hS hdown hw hb hw' hext hvr)

/-! every order -/
theorem countP_lt {f g : Nat → Bool} {i : Nat} : ∀ n, i < n → f i = true → g i = false → (∀ j, g j = true → f j = true) → (List.range n).countP g < (List.range n).countP f := by
  intro n
  induction n with
  | zero => intro h; omega
  | succ n ih =>
    intro hi hf hg hgf
    rw [List.range_succ, List.countP_append, List.countP_append]
    have hle : ∀ m, (List.range m).countP g ≤ (List.range m).countP f := fun m => List.countP_mono_left fun x _ => hgf x
    by_cases e : i = n
    · subst e
      have := hle i
      simp [hf, hg]; omega
    · have := ih (by omega) hf hg hgf
      have h1 : [n].countP g ≤ [n].countP f := List.countP_mono_left fun x _ => hgf x
      omega

theorem any_all (hR : Run P E ops a0 h0 R mk) (hE : E.Typed P) (hQ : E.Eqs P) (hM : E.Meths P) (h0t : Tp h0) (fr0 : Fresh φ0 h0.nx (R ops.size).h.nx) (hsm : a0.nt ≤ 500000) {Q : Exit → Go.Act → World → Prop}
    (hq : ∀ S φ w ca, (∀ i, i < ops.size → S i) → Inv ops.size R mk a0 h0 φ0 w0 S φ w ca → Q .normal ca w) : ∀ (fuel : Nat) (listed : Array Bool) (φ : Phi) (ca : Go.Act) (w : World), listed.size = ops.size →
      (List.range ops.size).countP (fun i => !listed.getD i false) ≤ fuel → Inv ops.size R mk a0 h0 φ0 w0 (fun i => listed.getD i false = true) φ w ca → wpAny P .any ops Q fuel listed ca w := by
  -- nothing is ready: all has been done
  have all_of : ∀ listed : Array Bool, listed.size = ops.size → Region.ready .any ops listed = [] → ∀ i, i < ops.size → listed.getD i false = true := by
    intro listed hsz hr i
    induction i using Nat.strongRecOn with
    | ind i ih =>
      intro hi
      apply Classical.byContradiction; intro hn
      have : i ∈ Region.ready .any ops listed := by
        rw [mem_ready]
        refine ⟨?_, (R i).o, hR.op i hi, fun e he hb => ih e.on (hR.back i hi e he hb) (by have := hR.back i hi e he hb; omega)⟩
        have hlt : i < listed.size := by omega
        simp [hlt] at hn ⊢
        exact hn
      rw [hr] at this; cases this
  have none_of : ∀ listed : Array Bool, listed.size = ops.size → (∀ i, i < ops.size → listed.getD i false = true) → Region.ready .any ops listed = [] := by
    intro listed hsz hall
    apply List.eq_nil_iff_forall_not_mem.2
    intro i hi
    rw [mem_ready] at hi
    obtain ⟨h1, o, ho, _⟩ := hi
    have hlt : i < ops.size := (Array.getElem?_eq_some_iff.1 ho).1
    have := hall i hlt
    have hlt' : i < listed.size := by omega
    simp [hlt'] at h1 this
    rw [h1] at this; cases this
  intro fuel
  induction fuel with
  | zero =>
    intro listed φ ca w hsz hc I
    have hall : ∀ i, i < ops.size → listed.getD i false = true := by
      intro i hi
      have h0 : (List.range ops.size).countP (fun i => !listed.getD i false) = 0 := by omega
      rw [List.countP_eq_zero] at h0
      have := h0 i (List.mem_range.2 hi)
      simpa using this
    exact ⟨none_of listed hsz hall, hq _ _ _ _ hall I⟩
  | succ fuel ih =>
    intro listed φ ca w hsz hc I
    refine ⟨fun hr => hq _ _ _ _ (all_of listed hsz hr) I, fun i hi => ?_⟩
    rw [mem_ready] at hi
    obtain ⟨h1, o, ho, hall⟩ := hi
    have hlt : i < ops.size := (Array.getElem?_eq_some_iff.1 ho).1
    have hlt' : i < listed.size := by omega
    have hun : listed.getD i false = false := by simp [hlt'] at h1 ⊢; exact h1
    have hoR : o = (R i).o := by have := hR.op i hlt; rw [ho] at this; cases this; rfl
    subst hoR
    refine op_any hR hE hQ hM I h0t fr0 hsm hlt (by rw [hun]; simp) (fun j hj => ?_) fun φ' ca' w' I' => ?_
    · obtain ⟨e, he, hb, h⟩ := hR.mask i hlt j hj
      have hdone := hall e he hb
      rcases h with rfl | h
      · exact hdone
      · exact I.down e.on (by have := hR.back i hlt e he hb; omega) hdone j h
    · refine ih (listed.setIfInBounds i true) φ' ca' w' (by rw [Array.size_setIfInBounds]; exact hsz) ?_ ?_
      · have := countP_lt (f := fun i => !listed.getD i false) (g := fun j => !(listed.setIfInBounds i true).getD j false) (i := i) ops.size hlt (by simp [hun]) (by simp [hlt']) (fun j hj => ?_)
        · omega
        · by_cases e : i = j
          · subst e; simp [hlt'] at hj
          · rw [getD_set_ne false e] at hj; exact hj
      · have : (fun j => (listed.setIfInBounds i true).getD j false = true) = plus (fun j => listed.getD j false = true) i := by
          funext j
          apply propext
          unfold plus
          by_cases e : j = i
          · subst e; simp [hlt']
          · rw [getD_set_ne false (fun e' => e e'.symm)]
            exact ⟨.inl, fun h => h.elim id fun h => absurd h e⟩
        rw [this]
        exact I'

theorem run_any (hR : Run P E ops a0 h0 R mk) (hE : E.Typed P) (hQ : E.Eqs P) (hM : E.Meths P) {φ : Phi} {ca : Go.Act} {w : World} (hw : WRel φ h0 w) (ha : ARel φ a0 ca) (fr : Fresh φ h0.nx (R ops.size).h.nx)
    {Q : Exit → Go.Act → World → Prop} (hq : ∀ φ' ca' w', WRel φ' (R ops.size).h w' → ARel φ' (R ops.size).a ca' → Ext φ h0 w φ' (R ops.size).h w' → Q .normal ca' w') :
    wpAny P .any ops Q ops.size (Array.replicate ops.size false) ca w := by
  have h0t : Tp h0 := ⟨hw.top, hw.small⟩
  refine any_all (φ0 := φ) (w0 := w) hR hE hQ hM h0t fr ha.sm (fun S φ' w' ca' hall I => ?_) ops.size _ φ ca w (by simp) ?_ ?_
  · have hp : Pos ops.size R S ops.size := ⟨Nat.le_refl _, fun s hs _ => ⟨fun _ => hall s hs, fun _ => hs⟩⟩
    have hwrel := I.wrelPos hR h0t fr hp
    obtain ⟨f1, f2, f3, f4⟩ := hR.frame ha.sm ops.size (Nat.le_refl _)
    refine hq φ' ca' w' hwrel ⟨fun t v hg => ?_, I.nt.trans f1.symm, by rw [f1]; exact ha.sm, by rw [f2]; exact I.df⟩ ⟨I.mono, fun b h1 h2 => ?_, ?_, fun b hb hn => ?_, fun b hb hn => ?_, I.cfr, I.size, I.newcb, I.qt⟩
    · by_cases hex : ∃ j, j < ops.size ∧ (R j).o.dst = some t
      · obtain ⟨j, hj, hjd⟩ := hex
        rw [f3 j t hj hjd] at hg
        cases hg
        exact I.tms j hj (hall j hj) t hjd
      · have hno : ∀ j, j < ops.size → (R j).o.dst ≠ some t := fun j hj e => hex ⟨j, hj, e⟩
        rw [f4 t hno] at hg
        exact I.old t v (fun j hj _ => hno j hj) hg
    · obtain ⟨i, hi, _, h3, h4⟩ := I.rng b h1 h2
      have := hR.nx (Nat.zero_le i) (by omega)
      have := hR.nx (show i + 1 ≤ ops.size by omega) (Nat.le_refl _)
      rw [hR.h0] at *
      omega
    · have := hR.nx (Nat.zero_le ops.size) (Nat.le_refl _)
      rw [hR.h0] at this; exact this
    · exact I.live0 hR hb ops.size (Nat.le_refl _) (fun s h1 h2 h3 => absurd (hall s h2) h3) hn
    · have hn' : φ' b = none := by
        apply Classical.byContradiction; intro hh
        obtain ⟨i, hi, _, h3, _⟩ := I.rng b hn hh
        have := hR.nx (Nat.zero_le i) (by omega)
        rw [hR.h0] at this; omega
      have : ∀ k, k ≤ ops.size → (R k).h.get b = h0.get b := by
        intro k
        induction k with
        | zero => intro _; rw [hR.h0]
        | succ k ih =>
          intro hk
          have := hR.nx (Nat.zero_le k) (by omega)
          rw [hR.h0] at this
          rw [I.afr k (by omega) (hall k (by omega)) b (by omega) hn', ih (by omega)]
      exact this ops.size (Nat.le_refl _)
  · exact Nat.le_trans List.countP_le_length (by simp)
  · have hnot : ∀ i, ¬ ((Array.replicate ops.size false).getD i false = true) := by
      intro i
      simp [Array.getElem?_replicate]
      split <;> rfl
    refine ⟨fun i _ h => absurd h (hnot i), fun b im h => h, fun b h1 h2 => absurd h1 h2, fun i _ h => absurd h (hnot i), fun i _ h => absurd h (hnot i), fun i _ h => absurd h (hnot i), ?_, hw.dom, ?_, fun c ob h _ => h, Nat.le_refl _, fun b im h1 h2 => (by rw [h1] at h2; cases h2),
      fun i _ h => absurd h (hnot i), fun d v _ hg => ha.tm d v hg, ha.nt, ha.df, Quiet.refl w, hw.base, ?_⟩
    · intro b im t o ht hvd hb hg
      have hsame : ∀ k, k ≤ t → (R k).h.get b = h0.get b := by
        intro k
        induction k with
        | zero => intro _; rw [hR.h0]
        | succ k ih => intro hk; rw [hvd.1 k (by omega) (by omega) (hnot k), ih (by omega)]
      rw [hsame t (Nat.le_refl _)] at hg
      exact hw.live b o im hg hb
    · intro b b' im im' t t' ht ht' hvd hvd' hg hg' hb hb' hc
      have hsame : ∀ (b t : Nat), t ≤ ops.size → Vd ops.size R (fun i => (Array.replicate ops.size false).getD i false = true) b t → (R t).h.get b = h0.get b := by
        intro b t ht hvd
        have : ∀ k, k ≤ t → (R k).h.get b = h0.get b := by
          intro k
          induction k with
          | zero => intro _; rw [hR.h0]
          | succ k ih => intro hk; rw [hvd.1 k (by omega) (by omega) (hnot k), ih (by omega)]
        exact this t (Nat.le_refl _)
      rw [hsame b t ht hvd] at hg
      rw [hsame b' t' ht' hvd'] at hg'
      exact hw.inj b b' im im' hg hg' hb hb' hc
    · intro b im t ht hvd hg hb
      have : ∀ k, k ≤ t → (R k).h.get b = h0.get b := by
        intro k
        induction k with
        | zero => intro _; rw [hR.h0]
        | succ k ih => intro hk; rw [hvd.1 k (by omega) (by omega) (hnot k), ih (by omega)]
      rw [this t (Nat.le_refl _)] at hg
      exact hw.glob b im hg hb
end
end Go.AE

namespace Go.AE
variable [G : Glob]
set_option linter.unusedSectionVars false

/-! ### the evaluator's way through a drawn region, written down -/

/-- masks of what stands ahead, the last operation first -/
noncomputable def stMs : List Oper → Nat
  | [] => 0
  | o :: l => Nat.lor (stMs l) (Nat.shiftLeft (maskOf (stMs l) o.after.toList 0) (Nat.mul 128 l.length))

def actsOf : List Rc → List (Nat × Option Nat × Heap)
  | [] => []
  | r :: l => match r.wt.st with
    | some st => (l.length, st, r.h) :: actsOf l
    | none => actsOf l
noncomputable def rdOf : List Rc → List (Nat × Nat × Oper × Act × AV)
  | [] => []
  | r :: l => match r.wt with
    | .read => (l.length, maskOf (stMs (l.map (·.o))) r.o.after.toList 0, r.o, r.a, r.v) :: rdOf l
    | _ => rdOf l
noncomputable def drOf (l : List Rc) : Dr := ⟨l.length, stMs (l.map (·.o)), actsOf l, rdOf l⟩
noncomputable def afterA (a0 : Act) : List Rc → Act
  | [] => a0
  | r :: _ => r.a.putA r.o.dst r.v
def afterH (h0 : Heap) : List Rc → Heap
  | [] => h0
  | r :: _ => r.h2

structure StepOK (P : Program) (E : Env) (ops : List Oper) (pre : List Rc) (r : Rc) : Prop where
  dst : ∀ d, r.o.dst = some d → d < r.a.nt
  wn : wants r.a ops r.o.guard = some (match r.wt with | .skip => false | _ => true)
  ok : r.wt.OK P E r.o r.a r.h r.v r.h2
  ch : ∀ st, r.wt.st = some st → chain (maskOf (stMs (pre.map (·.o))) r.o.after.toList 0) st (actsOf pre) = true

def Good (P : Program) (E : Env) (ops : List Oper) (a0 : Act) (h0 : Heap) : List Rc → Prop
  | [] => True
  | r :: pre => Good P E ops a0 h0 pre ∧ r.a = afterA a0 pre ∧ r.h = afterH h0 pre ∧ StepOK P E ops pre r

def SDr (P : Program) (E : Env) (r : Rec) : Prop := ∀ l ops a0 h0 pre out a' h', Good P E ops a0 h0 pre → r (.draw l (drOf pre) ops (afterA a0 pre) (afterH h0 pre)) = .ok out a' h' →
  ∃ tr, Good P E ops a0 h0 tr ∧ tr.map (·.o) = l.reverse ++ pre.map (·.o) ∧ out = .norm ∧ a' = afterA a0 tr ∧ h' = afterH h0 tr ∧
    readsOk E (stMs (tr.map (·.o))) (actsOf tr).reverse h' (rdOf tr) = true

section
variable {P : Program} {E : Env} {rec : Rec}

theorem sdr_step (hn : ∀ q, (rec q).nxOk q.nx) (hc : SCall P rec) (hd : SDr P E rec) : ∀ l ops a0 h0 pre out a' h', Good P E ops a0 h0 pre → drS E rec ops (afterA a0 pre) (afterH h0 pre) (drOf pre) l = .ok out a' h' →
    ∃ tr, Good P E ops a0 h0 tr ∧ tr.map (·.o) = l.reverse ++ pre.map (·.o) ∧ out = .norm ∧ a' = afterA a0 tr ∧ h' = afterH h0 tr ∧
      readsOk E (stMs (tr.map (·.o))) (actsOf tr).reverse h' (rdOf tr) = true := by
  intro l ops a0 h0 pre out a' h' hg he
  cases l with
  | nil =>
    have he : drEnd2 (afterA a0 pre) (afterH h0 pre) (readsOk E (drOf pre).ms (drOf pre).acts.reverse (afterH h0 pre) (drOf pre).rd) = .ok out a' h' := he
    unfold drEnd2 at he
    split at he
    · rename_i hr
      cases he
      exact ⟨pre, hg, by simp, rfl, rfl, rfl, hr⟩
    · cases he
  | cons o l =>
    rw [drS_cons] at he
    generalize hm : maskOf (drOf pre).ms o.after.toList 0 = m at he
    -- what comes behind the operation
    have tail : ∀ (wt : What) (v : AV) (h2 : Heap), (wt = .read → False) → (∀ d, o.dst = some d → d < (afterA a0 pre).nt) → wants (afterA a0 pre) ops o.guard = some (match wt with | .skip => false | _ => true) →
        wt.OK P E o (afterA a0 pre) (afterH h0 pre) v h2 → (∀ st, wt.st = some st → chain m st (actsOf pre) = true) →
        rec (.draw l (match wt.st with | some st => { (drOf pre).next m with acts := ((drOf pre).i, st, afterH h0 pre) :: (drOf pre).acts } | none => (drOf pre).next m) ops ((afterA a0 pre).putA o.dst v) h2) = .ok out a' h' →
        ∃ tr, Good P E ops a0 h0 tr ∧ tr.map (·.o) = (o :: l).reverse ++ pre.map (·.o) ∧ out = .norm ∧ a' = afterA a0 tr ∧ h' = afterH h0 tr ∧ readsOk E (stMs (tr.map (·.o))) (actsOf tr).reverse h' (rdOf tr) = true := by
      intro wt v h2 hnr hdst hwn hok hch hrec
      have hg' : Good P E ops a0 h0 (⟨o, wt, afterA a0 pre, afterH h0 pre, v, h2⟩ :: pre) := ⟨hg, rfl, rfl, ⟨hdst, hwn, hok, fun st hst => by
        have := hch st hst; rw [← hm] at this; exact this⟩⟩
      have hdr : (match wt.st with | some st => { (drOf pre).next m with acts := ((drOf pre).i, st, afterH h0 pre) :: (drOf pre).acts } | none => (drOf pre).next m) = drOf (⟨o, wt, afterA a0 pre, afterH h0 pre, v, h2⟩ :: pre) := by
        subst hm
        cases wt with
        | read => exact absurd rfl hnr
        | _ => simp [drOf, Dr.next, stMs, actsOf, rdOf, What.st, List.length_map]
      rw [hdr] at hrec
      obtain ⟨tr, h1, h2', h3⟩ := hd l ops a0 h0 _ out a' h' hg' hrec
      exact ⟨tr, h1, by rw [h2']; simp, h3⟩
    have tailR : ∀ (v : AV), (∀ d, o.dst = some d → d < (afterA a0 pre).nt) → wants (afterA a0 pre) ops o.guard = some true → opFn o.op E (afterA a0 pre) (afterH h0 pre) = .val v →
        rec (.draw l { (drOf pre).next m with rd := ((drOf pre).i, m, o, afterA a0 pre, v) :: (drOf pre).rd } ops ((afterA a0 pre).putA o.dst v) (afterH h0 pre)) = .ok out a' h' →
        ∃ tr, Good P E ops a0 h0 tr ∧ tr.map (·.o) = (o :: l).reverse ++ pre.map (·.o) ∧ out = .norm ∧ a' = afterA a0 tr ∧ h' = afterH h0 tr ∧ readsOk E (stMs (tr.map (·.o))) (actsOf tr).reverse h' (rdOf tr) = true := by
      intro v hdst hwn hok hrec
      have hg' : Good P E ops a0 h0 (⟨o, .read, afterA a0 pre, afterH h0 pre, v, afterH h0 pre⟩ :: pre) := ⟨hg, rfl, rfl, ⟨hdst, hwn, ⟨hok, rfl⟩, fun st hst => by cases hst⟩⟩
      have hdr : ({ (drOf pre).next m with rd := ((drOf pre).i, m, o, afterA a0 pre, v) :: (drOf pre).rd } : Dr) = drOf (⟨o, .read, afterA a0 pre, afterH h0 pre, v, afterH h0 pre⟩ :: pre) := by
        subst hm
        simp [drOf, Dr.next, stMs, actsOf, rdOf, What.st, List.length_map]
      rw [hdr] at hrec
      obtain ⟨tr, h1, h2', h3⟩ := hd l ops a0 h0 _ out a' h' hg' hrec
      exact ⟨tr, h1, by rw [h2']; simp, h3⟩
    unfold drW at he
    cases hw : wants (afterA a0 pre) ops o.guard with
    | none => rw [hw] at he; cases he
    | some b => cases b with
      | false =>
        rw [hw] at he
        have he : drV rec o l ops (afterA a0 pre) m (drOf pre) unit (afterH h0 pre) = .ok out a' h' := he
        rw [drV_eq] at he
        obtain ⟨he, hdst⟩ := putK_is he (by simp)
        exact tail .skip unit (afterH h0 pre) (by intro h; cases h) hdst hw ⟨rfl, rfl⟩ (by intro st h; cases h) he
      | true =>
        rw [hw] at he
        have he : drX E rec o l ops (afterA a0 pre) (afterH h0 pre) (drOf pre) m (kindOf o.op) = .ok out a' h' := he
        cases hk : kindOf o.op with
        | free =>
          rw [hk] at he
          have he : freeK (afterH h0 pre) (drV rec o l ops (afterA a0 pre) m (drOf pre)) (opFn o.op E (afterA a0 pre) (afterH h0 pre)) = .ok out a' h' := he
          rw [freeK_eq] at he
          split at he
          · rename_i v hop
            split at he
            · rename_i hnx
              rw [drV_eq] at he
              obtain ⟨he, hdst⟩ := putK_is he (by simp)
              exact tail (.free none) v (afterH h0 pre) (by intro h; cases h) hdst hw ⟨hk, hop, rfl, hnx⟩ (by intro st h; cases h) he
            · cases he
          · rename_i ob v hop
            split at he
            · rename_i hnx
              rw [drV_eq] at he
              obtain ⟨he, hdst⟩ := putK_is he (by simp)
              exact tail (.free (some ob)) v _ (by intro h; cases h) hdst hw ⟨hk, hop, rfl, hnx⟩ (by intro st h; cases h) he
            · cases he
          · cases he
        | read =>
          rw [hk] at he
          have he : readK (afterH h0 pre) (drR rec o l ops (afterA a0 pre) m (drOf pre)) (opFn o.op E (afterA a0 pre) (afterH h0 pre)) = .ok out a' h' := he
          rw [readK_eq] at he
          split at he
          · rename_i v hop
            rw [drR_eq] at he
            obtain ⟨he, hdst⟩ := putK_is he (by simp)
            exact tailR v hdst hw hop he
          · cases he
        | act =>
          rw [hk] at he
          have he : drAct2 E rec o l ops (afterA a0 pre) (afterH h0 pre) m (drOf pre) (chain m none (drOf pre).acts) = .ok out a' h' := he
          unfold drAct2 at he
          split at he
          · rename_i hch
            have hchain : ∀ st, What.act.st = some st → chain m st (actsOf pre) = true := by
              intro st h
              have h : some none = some st := h
              cases h; exact hch
            have other : ∀ r, opFn o.op E (afterA a0 pre) (afterH h0 pre) = r → changeK (afterH h0 pre) (drA rec o l ops (afterA a0 pre) m (drOf pre) (afterH h0 pre) none) r = .ok out a' h' →
                ∃ tr, Good P E ops a0 h0 tr ∧ tr.map (·.o) = (o :: l).reverse ++ pre.map (·.o) ∧ out = .norm ∧ a' = afterA a0 tr ∧ h' = afterH h0 tr ∧ readsOk E (stMs (tr.map (·.o))) (actsOf tr).reverse h' (rdOf tr) = true := by
              intro r hop he
              rw [changeK_eq] at he
              split at he
              · rename_i v h2 happ
                rw [drA_eq] at he
                obtain ⟨he, hdst⟩ := putK_is he (by simp)
                exact tail .act v h2 (by intro h; cases h) hdst hw ⟨.inr (by rw [hop]; exact happ), applyR_nx happ⟩ hchain he
              · cases he
            unfold drAct at he
            split at he
            · rename_i f xs hop
              unfold drCB at he
              split at he
              · rename_i hcall
                unfold drC at he
                split at he
                · rename_i v h2 hr
                  rw [drA_eq] at he
                  obtain ⟨he, hdst⟩ := putK_is he (by simp)
                  exact tail .act v h2 (by intro h; cases h) hdst hw ⟨.inl ⟨hcall, f, xs, hop, hc _ _ _ _ _ hr⟩, nx_val hn hr⟩ hchain he
                · cases he
              · cases he
            · cases he
            · rename_i r _ _
              exact other _ rfl he
          · cases he
        | store =>
          rw [hk] at he
          have he : drStore rec o l ops (afterA a0 pre) (afterH h0 pre) m (drOf pre) (opFn o.op E (afterA a0 pre) (afterH h0 pre)) = .ok out a' h' := he
          unfold drStore at he
          split at he
          · rename_i b x v hop
            unfold drStore2 at he
            split at he
            · rename_i hch
              rw [setK_eq, drA_eq] at he
              obtain ⟨he, hdst⟩ := putK_is he (by simp)
              exact tail (.store b x) v _ (by intro h; cases h) hdst hw ⟨hk, hop, rfl⟩ (by
                intro st h
                have h : some (some b) = some st := h
                cases h; exact hch) he
            · cases he
          · cases he
        | bad => rw [hk] at he; cases he

/-! values held against each other -/
mutual
theorem AV.eq_true : ∀ {v w : AV}, AV.eq v w = true → v = w
  | .bool a, w, h => by cases w <;> simp [AV.eq] at h; subst h; rfl
  | .int k a, w, h => by
    cases w <;> simp [AV.eq] at h
    obtain ⟨h1, h2⟩ := h
    rw [eqF_eq] at h2
    rw [sameKind_eq h1, of_decide_eq_true h2]
  | .str a, w, h => by cases w <;> simp [AV.eq] at h; subst h; rfl
  | .ptr a b, w, h => by cases w <;> simp [AV.eq] at h; rw [h.1, h.2]
  | .ptrNil, w, h => by cases w <;> simp [AV.eq] at h; rfl
  | .slice a b c d e, w, h => by
    cases w <;> simp [AV.eq] at h
    obtain ⟨⟨⟨⟨h1, h2⟩, h3⟩, h4⟩, h5⟩ := h
    rw [h1, h2, h3, h4, h5]
  | .sliceNil, w, h => by cases w <;> simp [AV.eq] at h; rfl
  | .map a, w, h => by cases w <;> simp [AV.eq] at h; rw [h]
  | .mapNil, w, h => by cases w <;> simp [AV.eq] at h; rfl
  | .func f g c, w, h => by
    cases w <;> simp [AV.eq] at h
    obtain ⟨⟨h1, h2⟩, h3⟩ := h
    rw [h1, AV.eqs_true h2, AV.eqs_true h3]
  | .nilFunc, w, h => by cases w <;> simp [AV.eq] at h; rfl
  | .iface t v, w, h => by
    cases w <;> simp [AV.eq] at h
    rw [h.1, AV.eq_true h.2]
  | .nilIface, w, h => by cases w <;> simp [AV.eq] at h; rfl
  | .agg a, w, h => by cases w <;> simp [AV.eq] at h; rw [AV.eqs_true h]
  | .tuple a, w, h => by cases w <;> simp [AV.eq] at h; rw [AV.eqs_true h]
theorem AV.eqs_true : ∀ {v w : List AV}, AV.eqs v w = true → v = w
  | [], w, h => by cases w <;> simp [AV.eqs] at h; rfl
  | a :: x, w, h => by
    cases w <;> simp [AV.eqs] at h
    rw [AV.eq_true h.1, AV.eqs_true h.2]
end
theorem sameVal_true {v : AV} {r : R1} (h : sameVal v r = true) : r = .val v := by
  cases r with
  | val u => rw [AV.eq_true h]
  | _ => cases h

theorem behind_mem {ms i : Nat} : ∀ {l : List (Nat × Option Nat × Heap)}, behind ms i l = true → ∀ x ∈ l, (maskAt ms x.1).testBit i = true
  | [], _, x, hx => by cases hx
  | (j, st, h) :: l, hb, x, hx => by
    unfold behind at hb
    simp only [Bool.and_eq_true] at hb
    cases hx with
    | head => exact hb.1
    | tail _ hx => exact behind_mem hb.2 x hx

theorem readOk_spec {ms i m n : Nat} {o : Oper} {a : Act} {v : AV} {hf : Heap} {hp : Nat → Heap} (hpn : hp n = hf) {p : Nat → Prop} (p1 : ∀ j, m.testBit j = true → p j)
    (p2 : ∀ j k, j < n → (maskAt ms j).testBit k = true → p j → p k) (hpi : ¬ p i) : ∀ (acts : List (Nat × Option Nat × Heap)), (∀ x ∈ acts, x.1 < n ∧ x.2.2 = hp x.1) → acts.Pairwise (fun x y => x.1 < y.1) →
    readOk E ms i m o a v hf acts = true → ∃ t, t ≤ n ∧ opFn o.op E a (hp t) = .val v ∧ (∀ x ∈ acts, (x.1 < t ↔ p x.1)) ∧ (t = n ∨ ∃ x ∈ acts, x.1 = t)
  | [], _, _, h => ⟨n, Nat.le_refl _, by rw [hpn]; exact sameVal_true h, (fun x hx => by cases hx), .inl rfl⟩
  | (j, st, h) :: l, hx, hs, hr => by
    obtain ⟨hjn, hjh⟩ := hx (j, st, h) (.head _)
    have hjh : h = hp j := hjh
    have hs1 : ∀ {x : Nat × Option Nat × Heap}, x ∈ l → j < x.1 := fun hxl => List.rel_of_pairwise_cons hs hxl
    have later : ∀ t, (t = n ∨ ∃ x ∈ l, x.1 = t) → j < t := by
      intro t ht
      rcases ht with rfl | ⟨x, hxl, rfl⟩
      · exact hjn
      · exact hs1 hxl
    have next : p j → readOk E ms i m o a v hf l = true → ∃ t, t ≤ n ∧ opFn o.op E a (hp t) = .val v ∧ (∀ x ∈ (j, st, h) :: l, (x.1 < t ↔ p x.1)) ∧ (t = n ∨ ∃ x ∈ (j, st, h) :: l, x.1 = t) := by
      intro hpj hr
      obtain ⟨t, h1, h2, h3, h4⟩ := readOk_spec hpn p1 p2 hpi l (fun x hxl => hx x (.tail _ hxl)) hs.of_cons hr
      refine ⟨t, h1, h2, fun x hxl => ?_, h4.imp id fun ⟨x, hxl, e⟩ => ⟨x, .tail _ hxl, e⟩⟩
      cases hxl with
      | head => exact ⟨fun _ => hpj, fun _ => later t h4⟩
      | tail _ hxl => exact h3 x hxl
    have stop : sameVal v (opFn o.op E a h) = true → ¬ p j → (∀ x ∈ l, ¬ p x.1) → ∃ t, t ≤ n ∧ opFn o.op E a (hp t) = .val v ∧ (∀ x ∈ (j, st, h) :: l, (x.1 < t ↔ p x.1)) ∧ (t = n ∨ ∃ x ∈ (j, st, h) :: l, x.1 = t) := by
      intro hv hpj hl
      refine ⟨j, Nat.le_of_lt hjn, by rw [← hjh]; exact sameVal_true hv, fun x hxl => ?_, .inr ⟨_, .head _, rfl⟩⟩
      cases hxl with
      | head => exact ⟨fun h => absurd h (Nat.lt_irrefl _), fun h => absurd h hpj⟩
      | tail _ hxl => exact ⟨fun h => by have := hs1 hxl; omega, fun h => absurd h (hl x hxl)⟩
    unfold readOk at hr
    split at hr
    · rename_i hb
      exact next (p1 j hb) hr
    · simp only [Bool.and_eq_true] at hr
      obtain ⟨hv, hr⟩ := hr
      split at hr
      · rename_i hb
        exact stop hv (fun h => hpi (p2 j i hjn hb h)) fun x hxl h => hpi (p2 x.1 i (hx x (.tail _ hxl)).1 (behind_mem hr x hxl) h)
      · simp only [Bool.and_eq_true] at hr
        by_cases hpj : p j
        · exact next hpj hr.2
        · exact stop hv hpj fun x hxl h => hpj (p2 x.1 j (hx x (.tail _ hxl)).1 (behind_mem hr.1 x hxl) h)

theorem readsOk_mem {ms : Nat} {hf : Heap} {acts : List (Nat × Option Nat × Heap)} : ∀ {l : List (Nat × Nat × Oper × Act × AV)}, readsOk E ms acts hf l = true → ∀ x ∈ l, readOk E ms x.1 x.2.1 x.2.2.1 x.2.2.2.1 x.2.2.2.2 hf acts = true
  | [], _, x, hx => by cases hx
  | (i, m, o, a, v) :: l, h, x, hx => by
    unfold readsOk at h
    simp only [Bool.and_eq_true] at h
    cases hx with
    | head => exact h.1
    | tail _ hx => exact readsOk_mem h.2 x hx

theorem chain_mem {m : Nat} {st : Option Nat} : ∀ {l : List (Nat × Option Nat × Heap)}, chain m st l = true → ∀ x ∈ l, m.testBit x.1 = true ∨ looseS st x.2.1 = true
  | [], _, x, hx => by cases hx
  | (j, st', h') :: l, h, x, hx => by
    unfold chain at h
    simp only [Bool.and_eq_true, Bool.or_eq_true] at h
    cases hx with
    | head => exact h.1
    | tail _ hx => exact chain_mem h.2 x hx

/-! masks -/
theorem bindsAny_eq (e : Edge) : bindsAny e.ground = Region.binds .any e := by
  unfold bindsAny Region.binds
  split <;> simp_all

theorem maskOf_bit {ms : Nat} : ∀ (l : List Edge) (s j : Nat), (maskOf ms l s).testBit j = true → s.testBit j = true ∨ ∃ e ∈ l, Region.binds .any e = true ∧ (j = e.on ∨ (maskAt ms e.on).testBit j = true)
  | [], s, j, h => .inl h
  | e :: l, s, j, h => by
    have h : (Bool.rec (motive := fun _ => Nat) (maskOf ms l s) (forceNat (maskE ms s e.on) (maskOf ms l)) (bindsAny e.ground)).testBit j = true := h
    cases hb : bindsAny e.ground with
    | false =>
      rw [hb] at h
      rcases maskOf_bit l s j h with h | ⟨e', he', h⟩
      · exact .inl h
      · exact .inr ⟨e', .tail _ he', h⟩
    | true =>
      rw [hb] at h
      have h : (forceNat (maskE ms s e.on) (maskOf ms l)).testBit j = true := h
      rw [forceNat_eq] at h
      rcases maskOf_bit l _ j h with h | ⟨e', he', h⟩
      · have h : (s ||| ((1 <<< e.on) ||| maskAt ms e.on)).testBit j = true := h
        rw [Nat.testBit_or, Nat.testBit_or, Bool.or_eq_true, Bool.or_eq_true] at h
        rcases h with h | h | h
        · exact .inl h
        · rw [Nat.testBit_shiftLeft] at h
          simp only [Bool.and_eq_true, decide_eq_true_eq] at h
          refine .inr ⟨e, .head _, by rw [← bindsAny_eq]; exact hb, .inl ?_⟩
          obtain ⟨h1, h2⟩ := h
          rw [Nat.testBit_one_eq_true_iff_self_eq_zero] at h2
          omega
        · exact .inr ⟨e, .head _, by rw [← bindsAny_eq]; exact hb, .inr h⟩
      · exact .inr ⟨e', .tail _ he', h⟩

theorem maskAt_bit (ms i j : Nat) : (maskAt ms i).testBit j = (decide (j < 128) && ms.testBit (128 * i + j)) := by
  show ((ms >>> (128 * i)) % 2 ^ 128).testBit j = _
  rw [Nat.testBit_mod_two_pow, Nat.testBit_shiftRight]
end
end Go.AE

namespace Go.AE
variable [G : Glob]
set_option linter.unusedSectionVars false

/-! ### from the trace to the run -/
section
variable {P : Program} {E : Env} {ops : List Oper} {a0 : Act} {h0 : Heap}

theorem Good.tail : ∀ {post pre : List Rc}, Good P E ops a0 h0 (post ++ pre) → Good P E ops a0 h0 pre
  | [], _, h => h
  | _ :: post, _, h => Good.tail (post := post) h.1

/-- the operations ahead of place i, the last first -/
def preOf (tr : List Rc) (i : Nat) : List Rc := tr.drop (tr.length - i)
noncomputable def recOf (a0 : Act) (h0 : Heap) (tr : List Rc) (i : Nat) : Rc :=
  if h : i < tr.length then tr[tr.length - 1 - i] else ⟨default, .skip, afterA a0 tr, afterH h0 tr, unit, afterH h0 tr⟩

variable {tr : List Rc}
theorem preOf_zero : preOf tr 0 = [] := by simp [preOf]
theorem preOf_all : preOf tr tr.length = tr := by simp [preOf]
theorem preOf_length {i : Nat} (hi : i ≤ tr.length) : (preOf tr i).length = i := by simp [preOf]; omega
theorem preOf_succ {i : Nat} (hi : i < tr.length) : preOf tr (i + 1) = recOf a0 h0 tr i :: preOf tr i := by
  unfold preOf recOf
  rw [dif_pos hi]
  have h1 : tr.length - (i + 1) < tr.length := by omega
  rw [List.drop_eq_getElem_cons h1]
  congr 1
  · congr 1; omega
  · congr 1; omega

theorem good_pre (hg : Good P E ops a0 h0 tr) (i : Nat) : Good P E ops a0 h0 (preOf tr i) := by
  have := List.take_append_drop (tr.length - i) tr
  rw [← this] at hg
  exact hg.tail

theorem rec_step (hg : Good P E ops a0 h0 tr) {i : Nat} (hi : i < tr.length) : (recOf a0 h0 tr i).a = afterA a0 (preOf tr i) ∧ (recOf a0 h0 tr i).h = afterH h0 (preOf tr i) ∧ StepOK P E ops (preOf tr i) (recOf a0 h0 tr i) := by
  have := good_pre hg (i + 1)
  rw [preOf_succ (a0 := a0) (h0 := h0) hi] at this
  exact ⟨this.2.1, this.2.2.1, this.2.2.2⟩

theorem rec_ah (hg : Good P E ops a0 h0 tr) {i : Nat} (hi : i ≤ tr.length) : (recOf a0 h0 tr i).a = afterA a0 (preOf tr i) ∧ (recOf a0 h0 tr i).h = afterH h0 (preOf tr i) := by
  by_cases h : i < tr.length
  · exact ⟨(rec_step hg h).1, (rec_step hg h).2.1⟩
  · have : i = tr.length := by omega
    subst this
    rw [preOf_all]
    unfold recOf
    rw [dif_neg h]
    exact ⟨rfl, rfl⟩

theorem rec_op {o : Array Oper} (ho : tr.map (·.o) = o.toList.reverse) {i : Nat} (hi : i < o.size) : o[i]? = some (recOf a0 h0 tr i).o := by
  have hl : tr.length = o.size := by have := congrArg List.length ho; simpa using this
  unfold recOf
  rw [dif_pos (by omega)]
  have hlt : tr.length - 1 - i < tr.length := by omega
  have h1 : (tr.map (·.o))[tr.length - 1 - i]? = some (tr[tr.length - 1 - i]).o := by
    rw [List.getElem?_map, List.getElem?_eq_getElem hlt]; rfl
  rw [ho, List.getElem?_reverse (by simp; omega)] at h1
  rw [← h1]
  simp
  congr 1; omega

theorem actsOf_mem {i : Nat} (hi : i ≤ tr.length) : ∀ x, x ∈ actsOf (preOf tr i) ↔ x.1 < i ∧ (recOf a0 h0 tr x.1).wt.st = some x.2.1 ∧ x.2.2 = (recOf a0 h0 tr x.1).h := by
  induction i with
  | zero => intro x; rw [preOf_zero]; simp [actsOf]
  | succ i ih =>
    intro x
    rw [preOf_succ (a0 := a0) (h0 := h0) (by omega)]
    have ih := ih (by omega) x
    unfold actsOf
    rw [preOf_length (by omega)]
    split
    · rename_i st hst
      rw [List.mem_cons, ih]
      constructor
      · rintro (rfl | ⟨h1, h2⟩)
        · exact ⟨Nat.lt_succ_self _, hst, rfl⟩
        · exact ⟨by omega, h2⟩
      · rintro ⟨h1, h2, h3⟩
        by_cases e : x.1 = i
        · left
          obtain ⟨x1, x2, x3⟩ := x
          simp only at e h2 h3
          subst e
          rw [hst] at h2; cases h2
          rw [h3]
        · exact .inr ⟨by omega, h2, h3⟩
    · rename_i hst
      rw [ih]
      constructor
      · rintro ⟨h1, h2⟩; exact ⟨by omega, h2⟩
      · rintro ⟨h1, h2, h3⟩
        by_cases e : x.1 = i
        · rw [e, hst] at h2; cases h2
        · exact ⟨by omega, h2, h3⟩

theorem actsOf_sorted (a0 : Act) (h0 : Heap) {i : Nat} (hi : i ≤ tr.length) : (actsOf (preOf tr i)).Pairwise (fun x y => y.1 < x.1) := by
  induction i with
  | zero => rw [preOf_zero]; exact List.Pairwise.nil
  | succ i ih =>
    have hm := actsOf_mem (a0 := a0) (h0 := h0) (tr := tr) (i := i) (by omega)
    rw [preOf_succ (a0 := a0) (h0 := h0) (by omega)]
    unfold actsOf
    rw [preOf_length (by omega)]
    split
    · exact List.Pairwise.cons (fun x hx => ((hm x).1 hx).1) (ih (by omega))
    · exact ih (by omega)

/-- masks, by place -/
noncomputable def mkOf (a0 : Act) (h0 : Heap) (tr : List Rc) (i : Nat) : Nat := maskOf (stMs ((preOf tr i).map (·.o))) (recOf a0 h0 tr i).o.after.toList 0

theorem rdOf_mem {i : Nat} (hi : i ≤ tr.length) : ∀ j, j < i → (recOf a0 h0 tr j).wt = .read → (j, mkOf a0 h0 tr j, (recOf a0 h0 tr j).o, (recOf a0 h0 tr j).a, (recOf a0 h0 tr j).v) ∈ rdOf (preOf tr i) := by
  induction i with
  | zero => intro j hj; omega
  | succ i ih =>
    intro j hj hw
    rw [preOf_succ (a0 := a0) (h0 := h0) (by omega)]
    unfold rdOf
    rw [preOf_length (by omega)]
    by_cases e : j = i
    · subst e
      rw [hw]
      exact List.mem_cons_self
    · have := ih (by omega) j (by omega) hw
      split
      · exact List.mem_cons_of_mem _ this
      · exact this

theorem mask_facts (hsz : tr.length ≤ 128) (hback : ∀ i, i < tr.length → ∀ e ∈ (recOf a0 h0 tr i).o.after, Region.binds .any e = true → e.on < i) : ∀ i, i ≤ tr.length →
    (∀ k, k < i → ∀ j, (mkOf a0 h0 tr k).testBit j = true → j < k) ∧ (∀ k j, j < 128 → (stMs ((preOf tr i).map (·.o))).testBit (128 * k + j) = (decide (k < i) && (mkOf a0 h0 tr k).testBit j)) := by
  intro i
  induction i with
  | zero => intro _; refine ⟨fun k h => by omega, fun k j _ => ?_⟩; rw [preOf_zero]; simp [stMs]
  | succ i ih =>
    intro hi
    obtain ⟨ha, hb⟩ := ih (by omega)
    have hbit : ∀ j, (mkOf a0 h0 tr i).testBit j = true → j < i := by
      intro j hj
      rcases maskOf_bit _ _ _ hj with h | ⟨e, he, hbd, h⟩
      · simp at h
      · have hlt := hback i (by omega) e (by simpa using he) hbd
        rcases h with rfl | h
        · exact hlt
        · rw [maskAt_bit] at h
          simp only [Bool.and_eq_true, decide_eq_true_eq] at h
          have h2 := h.2
          rw [hb e.on j h.1] at h2
          simp only [Bool.and_eq_true, decide_eq_true_eq] at h2
          have := ha e.on h2.1 j h2.2; omega
    refine ⟨fun k hk j hj => ?_, fun k j hj => ?_⟩
    · by_cases e : k = i
      · subst e; exact hbit j hj
      · exact ha k (by omega) j hj
    · rw [preOf_succ (a0 := a0) (h0 := h0) (by omega)]
      show (stMs ((preOf tr i).map (·.o)) ||| (mkOf a0 h0 tr i <<< (128 * ((preOf tr i).map (·.o)).length))).testBit _ = _
      rw [List.length_map, preOf_length (by omega), Nat.testBit_or, hb k j hj, Nat.testBit_shiftLeft]
      by_cases h1 : k < i
      · have : ¬ (128 * k + j ≥ 128 * i) := by omega
        simp [h1, this, show k < i + 1 by omega]
      · by_cases h2 : k = i
        · subst h2
          simp
        · have hge : 128 * k + j ≥ 128 * i := by omega
          have : (mkOf a0 h0 tr i).testBit (128 * k + j - 128 * i) = false := by
            cases h : (mkOf a0 h0 tr i).testBit (128 * k + j - 128 * i) with
            | false => rfl
            | true => have := hbit _ h; omega
          simp [h1, this, show ¬ k < i + 1 by omega]

theorem edgesOK_spec {i : Nat} : ∀ {l : List Edge}, edgesOK i l = true → ∀ e ∈ l, Region.binds .any e = true → e.on < i
  | [], _, e, he => by cases he
  | e' :: l, h, e, he => by
    unfold edgesOK at h
    simp only [Bool.and_eq_true] at h
    cases he with
    | head =>
      intro hb
      rw [← bindsAny_eq] at hb
      have h1 := h.1
      rw [hb] at h1
      exact (blt_iff _ _).1 h1
    | tail _ he => exact edgesOK_spec h.2 e he

theorem dstsOf_mem : ∀ (l : List Oper) (i d k : Nat), (d, k) ∈ dstsOf l i ↔ i ≤ k ∧ ∃ o, l[k - i]? = some o ∧ o.dst = some d
  | [], i, d, k => by simp [dstsOf]
  | o :: l, i, d, k => by
    have ih := dstsOf_mem l (i + 1) d k
    have key : (i + 1 ≤ k ∧ ∃ o', l[k - (i + 1)]? = some o' ∧ o'.dst = some d) ↔ (i < k ∧ ∃ o', (o :: l)[k - i]? = some o' ∧ o'.dst = some d) := by
      constructor
      · rintro ⟨h1, o', h2, h3⟩
        refine ⟨h1, o', ?_, h3⟩
        rw [show k - i = k - (i + 1) + 1 by omega, List.getElem?_cons_succ]; exact h2
      · rintro ⟨h1, o', h2, h3⟩
        refine ⟨h1, o', ?_, h3⟩
        rw [show k - i = k - (i + 1) + 1 by omega, List.getElem?_cons_succ] at h2; exact h2
    unfold dstsOf
    split
    · rename_i d' hd
      rw [List.mem_cons, ih, key]
      constructor
      · rintro (h | ⟨h1, h2⟩)
        · cases h; exact ⟨Nat.le_refl _, o, by simp, hd⟩
        · exact ⟨by omega, h2⟩
      · rintro ⟨h1, o', h2, h3⟩
        by_cases e : k = i
        · subst e
          simp at h2; subst h2
          rw [hd] at h3; cases h3
          exact .inl rfl
        · exact .inr ⟨by omega, o', h2, h3⟩
    · rename_i hd
      rw [ih, key]
      constructor
      · rintro ⟨h1, h2⟩; exact ⟨by omega, h2⟩
      · rintro ⟨h1, o', h2, h3⟩
        by_cases e : k = i
        · subst e
          simp at h2; subst h2
          rw [hd] at h3; cases h3
        · exact ⟨by omega, o', h2, h3⟩

theorem freshD_spec {d : Nat} : ∀ {l : List (Nat × Nat)}, freshD d l = true → ∀ p ∈ l, p.1 ≠ d
  | [], _, p, hp => by cases hp
  | q :: l, h, p, hp => by
    unfold freshD at h
    simp only [Bool.and_eq_true] at h
    cases hp with
    | head => intro e; rw [e, Nat.beq_refl] at h; simp at h
    | tail _ hp => exact freshD_spec h.2 p hp
theorem distOK_spec : ∀ {l : List (Nat × Nat)}, distOK l = true → ∀ p ∈ l, ∀ q ∈ l, p.1 = q.1 → p = q
  | [], _, p, hp => by cases hp
  | r :: l, h, p, hp => by
    unfold distOK at h
    simp only [Bool.and_eq_true] at h
    intro q hq e
    cases hp with
    | head =>
      cases hq with
      | head => rfl
      | tail _ hq => exact absurd e.symm (freshD_spec h.1 q hq)
    | tail _ hp =>
      cases hq with
      | head => exact absurd e (freshD_spec h.1 p hp)
      | tail _ hq => exact distOK_spec h.2 p hp q hq e
theorem lookAt_spec {ms i d : Nat} : ∀ {l : List (Nat × Nat)}, lookAt ms i d l = true → ∀ p ∈ l, p.1 = d → (maskAt ms i).testBit p.2 = true ∨ (maskAt ms p.2).testBit i = true
  | [], _, p, hp => by cases hp
  | q :: l, h, p, hp => by
    unfold lookAt at h
    simp only [Bool.and_eq_true] at h
    intro e
    cases hp with
    | head => have h1 := h.1; rw [e, Nat.beq_refl] at h1; simpa using h1
    | tail _ hp => exact lookAt_spec h.2 p hp e
theorem looksOK_spec {full : List (Nat × Nat)} {ms i : Nat} : ∀ {l : List Nat}, looksOK full ms i l = true → ∀ d ∈ l, ∀ p ∈ full, p.1 = d → (maskAt ms i).testBit p.2 = true ∨ (maskAt ms p.2).testBit i = true
  | [], _, d, hd => by cases hd
  | d' :: l, h, d, hd => by
    unfold looksOK at h
    simp only [Bool.and_eq_true] at h
    cases hd with
    | head => exact lookAt_spec h.1
    | tail _ hd => exact looksOK_spec h.2 d hd

theorem drop_next {o : Array Oper} (ho : tr.map (·.o) = o.toList.reverse) {x : Oper} {l : List Oper} {i : Nat} (hl : x :: l = o.toList.drop i) : i < o.size ∧ x = (recOf a0 h0 tr i).o ∧ l = o.toList.drop (i + 1) := by
  have hi' : i < o.size := by
    have := congrArg List.length hl
    simp at this; omega
  have hop := rec_op (a0 := a0) (h0 := h0) ho hi'
  refine ⟨hi', ?_, ?_⟩
  · have h1 : (x :: l)[0]? = (o.toList.drop i)[0]? := by rw [hl]
    rw [List.getElem?_drop] at h1
    simp at h1
    rw [show o[i]? = some x from h1.symm ▸ (by simp)] at hop
    exact Option.some.inj hop
  · rw [← List.drop_drop, ← hl]; rfl

theorem edgesGo_spec {o : Array Oper} (ho : tr.map (·.o) = o.toList.reverse) : ∀ (l : List Oper) (i : Nat), l = o.toList.drop i → i ≤ o.size → edgesGo l i = true → ∀ k, i ≤ k → k < o.size → edgesOK k (recOf a0 h0 tr k).o.after.toList = true
  | [], i, hl, hi, _, k, hk, hk' => by
    have := congrArg List.length hl
    simp at this; omega
  | x :: l, i, hl, hi, h, k, hk, hk' => by
    unfold edgesGo at h
    simp only [Bool.and_eq_true] at h
    obtain ⟨hi', hx, hl'⟩ := drop_next (a0 := a0) (h0 := h0) ho hl
    subst hx
    by_cases e : k = i
    · subst e; exact h.1
    · exact edgesGo_spec ho l (i + 1) hl' (by omega) h.2 k (by omega) hk'
theorem lookGo_spec {o : Array Oper} {full : List (Nat × Nat)} {ms : Nat} (ho : tr.map (·.o) = o.toList.reverse) : ∀ (l : List Oper) (i : Nat), l = o.toList.drop i → i ≤ o.size → lookGo o full ms l i = true →
    ∀ k, i ≤ k → k < o.size → looksOK full ms k ((recOf a0 h0 tr k).o.looksAt o) = true
  | [], i, hl, hi, _, k, hk, hk' => by
    have := congrArg List.length hl
    simp at this; omega
  | x :: l, i, hl, hi, h, k, hk, hk' => by
    unfold lookGo at h
    simp only [Bool.and_eq_true] at h
    obtain ⟨hi', hx, hl'⟩ := drop_next (a0 := a0) (h0 := h0) ho hl
    subst hx
    by_cases e : k = i
    · subst e; exact h.1
    · exact lookGo_spec ho l (i + 1) hl' (by omega) h.2 k (by omega) hk'
theorem msGo_eq (a0 : Act) (h0 : Heap) {o : Array Oper} (ho : tr.map (·.o) = o.toList.reverse) : ∀ (l : List Oper) (i : Nat), l = o.toList.drop i → i ≤ o.size → msGo l i (stMs ((preOf tr i).map (·.o))) = stMs (tr.map (·.o))
  | [], i, hl, hi => by
    have hlen : tr.length = o.size := by have := congrArg List.length ho; simpa using this
    have := congrArg List.length hl
    simp at this
    have : i = tr.length := by omega
    subst this
    rw [preOf_all]; rfl
  | x :: l, i, hl, hi => by
    have hlen : tr.length = o.size := by have := congrArg List.length ho; simpa using this
    obtain ⟨hi', hx, hl'⟩ := drop_next (a0 := a0) (h0 := h0) ho hl
    have ih := msGo_eq a0 h0 ho l (i + 1) hl' (by omega)
    rw [← ih, preOf_succ (a0 := a0) (h0 := h0) (by omega), hx]
    show msGo l (i + 1) _ = msGo l (i + 1) (Nat.lor (stMs ((preOf tr i).map (·.o))) (Nat.shiftLeft (maskOf (stMs ((preOf tr i).map (·.o))) (recOf a0 h0 tr i).o.after.toList 0) (Nat.mul 128 ((preOf tr i).map (·.o)).length)))
    rw [List.length_map, preOf_length (by omega)]

theorem run_of {o : Array Oper} (hok : regOK o = true) (hg : Good P E o.toList a0 h0 tr) (ho : tr.map (·.o) = o.toList.reverse) (hr : readsOk E (stMs (tr.map (·.o))) (actsOf tr).reverse (afterH h0 tr) (rdOf tr) = true) :
    Run P E o a0 h0 (recOf a0 h0 tr) (mkOf a0 h0 tr) ∧ (recOf a0 h0 tr o.size).h = afterH h0 tr ∧ (recOf a0 h0 tr o.size).a = afterA a0 tr := by
  have hlen : tr.length = o.size := by have := congrArg List.length ho; simpa using this
  unfold regOK at hok
  simp only [Bool.and_eq_true, Nat.ble_eq] at hok
  obtain ⟨hsz, hdist, hedge, hlook⟩ := hok
  unfold regOK2 at hlook
  rw [forceNat_eq, show msGo o.toList 0 0 = stMs (tr.map (·.o)) by have := msGo_eq a0 h0 ho o.toList 0 (by simp) (Nat.zero_le _); rwa [preOf_zero] at this] at hlook
  have hspec := edgesGo_spec (a0 := a0) (h0 := h0) ho o.toList 0 (by simp) (Nat.zero_le _) hedge
  have hlspec := lookGo_spec (a0 := a0) (h0 := h0) ho o.toList 0 (by simp) (Nat.zero_le _) hlook
  have hback : ∀ i, i < tr.length → ∀ e ∈ (recOf a0 h0 tr i).o.after, Region.binds .any e = true → e.on < i := fun i hi e he hb =>
    edgesOK_spec (hspec i (Nat.zero_le _) (by omega)) e (by simpa using he) hb
  have hmk := mask_facts (a0 := a0) (h0 := h0) (by omega) hback
  have hend := rec_ah (P := P) (E := E) (ops := o.toList) hg (i := tr.length) (Nat.le_refl _)
  rw [preOf_all] at hend
  have hdm : ∀ i d, i < o.size → (recOf a0 h0 tr i).o.dst = some d → (d, i) ∈ dstsOf o.toList 0 := by
    intro i d hi hd
    rw [dstsOf_mem]
    exact ⟨Nat.zero_le _, _, by simpa using rec_op (a0 := a0) (h0 := h0) ho hi, hd⟩
  refine ⟨⟨fun i hi => rec_op ho hi, ?_, ?_, fun i hi => ?_, fun i hi => ?_, fun i hi => (rec_step hg (by omega)).2.2.dst, fun i hi => (rec_step hg (by omega)).2.2.wn, fun i hi => (rec_step hg (by omega)).2.2.ok, fun i hi st hst j hj st' hst' => ?_, ?_, fun i hi j hj => ?_, fun i hi => hback i (by omega),
    fun i j hi hj d hd hd' => ?_, fun i j hi hj d hd hdl => ?_⟩, by rw [← hlen]; exact hend.2, by rw [← hlen]; exact hend.1⟩
  · rw [(rec_ah hg (Nat.zero_le _)).2, preOf_zero]; rfl
  · rw [(rec_ah hg (Nat.zero_le _)).1, preOf_zero]; rfl
  · rw [(rec_ah hg (i := i + 1) (by omega)).2, preOf_succ (a0 := a0) (h0 := h0) (by omega)]; rfl
  · rw [(rec_ah hg (i := i + 1) (by omega)).1, preOf_succ (a0 := a0) (h0 := h0) (by omega)]; rfl
  · have hch := (rec_step hg (i := i) (by omega)).2.2.ch st hst
    exact chain_mem hch (j, st', (recOf a0 h0 tr j).h) ((actsOf_mem (by omega) _).2 ⟨hj, hst', rfl⟩)
  · intro i hi hw p p1 p2 hpi
    have hmem := rdOf_mem (a0 := a0) (h0 := h0) (tr := tr) (i := tr.length) (Nat.le_refl _) i (by omega) hw
    rw [preOf_all] at hmem
    have hrd := readsOk_mem hr _ hmem
    have hacts := actsOf_mem (a0 := a0) (h0 := h0) (tr := tr) (i := tr.length) (Nat.le_refl _)
    have hsorted := actsOf_sorted a0 h0 (tr := tr) (i := tr.length) (Nat.le_refl _)
    rw [preOf_all] at hacts hsorted
    have p2' : ∀ j k, j < o.size → (maskAt (stMs (tr.map (·.o))) j).testBit k = true → p j → p k := by
      intro j k hj hb hpj
      rw [maskAt_bit] at hb
      simp only [Bool.and_eq_true, decide_eq_true_eq] at hb
      have hb2 := hb.2
      have := (hmk tr.length (Nat.le_refl _)).2 j k hb.1
      rw [preOf_all] at this
      rw [this] at hb2
      simp only [Bool.and_eq_true, decide_eq_true_eq] at hb2
      exact p2 j hj hpj k hb2.2
    have hx' : ∀ x ∈ (actsOf tr).reverse, x.1 < o.size ∧ x.2.2 = (recOf a0 h0 tr x.1).h := by
      intro x hx
      rw [List.mem_reverse, hacts] at hx
      exact ⟨by omega, hx.2.2⟩
    obtain ⟨t, h1, h2, h3, _⟩ := readOk_spec (n := o.size) (hp := fun k => (recOf a0 h0 tr k).h) (by rw [← hlen]; exact hend.2) p1 p2' hpi (actsOf tr).reverse hx' (List.pairwise_reverse.2 hsorted) hrd
    refine ⟨t, h1, h2, fun j hj ha => ?_⟩
    obtain ⟨st, hst⟩ := Option.ne_none_iff_exists'.1 ha
    exact h3 (j, st, (recOf a0 h0 tr j).h) (by rw [List.mem_reverse, hacts]; exact ⟨by omega, hst, rfl⟩)
  · rcases maskOf_bit _ _ _ hj with h | ⟨e, he, hb, h⟩
    · simp at h
    · refine ⟨e, by simpa using he, hb, h.imp id fun h => ?_⟩
      rw [maskAt_bit] at h
      simp only [Bool.and_eq_true, decide_eq_true_eq] at h
      have h2 := h.2
      rw [(hmk i (by omega)).2 e.on j h.1] at h2
      simp only [Bool.and_eq_true, decide_eq_true_eq] at h2
      exact h2.2
  · have := distOK_spec hdist (d, i) (hdm i d hi hd) (d, j) (hdm j d hj hd') rfl
    cases this; rfl
  · have hbits : ∀ i j, (maskAt (stMs (tr.map (·.o))) i).testBit j = true → (mkOf a0 h0 tr i).testBit j = true := by
      intro i j hb
      rw [maskAt_bit] at hb
      simp only [Bool.and_eq_true, decide_eq_true_eq] at hb
      have hb2 := hb.2
      have := (hmk tr.length (Nat.le_refl _)).2 i j hb.1
      rw [preOf_all] at this
      rw [this] at hb2
      simp only [Bool.and_eq_true, decide_eq_true_eq] at hb2
      exact hb2.2
    exact (looksOK_spec (hlspec i (Nat.zero_le _) hi) d hdl (d, j) (hdm j d hj hd) rfl).imp (hbits i j) (hbits j i)
end
end Go.AE

namespace Go.AE
set_option linter.unusedSectionVars false
variable [G : Glob]

/-! ### the evaluator is sound -/
structure Sound (P : Program) (E : Env) (r : Rec) : Prop where
  call : SCall P r
  ops : SOps P r
  code : SCode P r
  loop : SLoop P r
  draw : SDr P E r
  def' : SDef P r

theorem sdraw_of {P : Program} {E : Env} {r : Rec} (hE : E.Typed P) (hQ : E.Eqs P) (hM : E.Meths P) (hd : SDr P E r) : SDraw P r := by
  intro ops a h out a' h' hok he
  obtain ⟨tr, hg, ho, rfl, rfl, rfl, hr⟩ := hd ops.toList ops.toList a h [] out a' h' trivial he
  refine ⟨rfl, fun φ ca w hw ha fr Q hq => ?_⟩
  obtain ⟨hR, h1, h2⟩ := run_of hok hg (by rw [ho]; simp) hr
  refine run_any hR hE hQ hM hw ha (by rw [h1]; exact fr) fun φ' ca' w' hw' ha' hext => ?_
  rw [h1] at hw' hext
  rw [h2] at ha'
  exact hq φ' ca' w' hw' ha' hext

theorem ev_sound {P : Program} {E : Env} (hE : E.Typed P) (hQ : E.Eqs P) (hM : E.Meths P) (hC : E.Calls P) (hmix : P.follows .mixedOrders = true) : ∀ n, Sound P E (ev E n) := by
  intro n
  induction n with
  | zero => exact ⟨fun f xs h v h' he => (by cases he), fun l ops a h out a' h' he => (by cases he), fun c a h out a' h' _ he => (by cases he), fun b a h out a' h' _ he => (by cases he),
      fun l ops a0 h0 pre out a' h' _ he => (by cases he), fun l h v h' he => (by cases he)⟩
  | succ n ih =>
    have hn := ev_nx E n
    have hdr := sdraw_of hE hQ hM ih.draw
    exact ⟨fun f xs h v h' he => scall_step hE hC hn ih.code ih.def' f xs h v h' he, fun l ops a h out a' h' he => sops_step hE hQ hM hn ih.call ih.ops l ops a h out a' h' he,
      fun c a h out a' h' hdk he => scode_step hmix hn ih.ops hdr ih.code ih.loop c a h out a' h' hdk he, fun b a h out a' h' hdk he => sloop_step hn ih.code ih.loop b a h out a' h' hdk he,
      fun l ops a0 h0 pre out a' h' hg he => sdr_step hn ih.call ih.draw l ops a0 h0 pre out a' h' hg he, fun l h v h' he => sdef_step hE hC hn ih.code ih.def' l h v h' he⟩
end Go.AE

namespace Go.AE
set_option linter.unusedSectionVars false
variable [G : Glob]

/-! ### a contract that was reckoned over no memory holds over any -/
section
variable {P : Program} {f : Nat} {xs : List AV} {v : AV} {k : Nat} {H1 h h' : Heap}

theorem frame_nil (hc : CallOK P f xs ⟨.nil, k⟩ v H1) (hk : h.nx = k) (hn : h'.nx = H1.nx) (h1 : ∀ b, b < k → h'.get b = h.get b) (h2 : ∀ b, k ≤ b → h'.get b = H1.get b ∨ h'.get b = h.get b) : CallOK P f xs h v h' := by
  intro φ w xs' hw hx fr
  subst hk
  have hw0 : WRel φ ⟨.nil, h.nx⟩ w := ⟨fun b o im hg => by simp [Heap.get, Tr.get_nil] at hg, hw.dom, fun b b' im im' hg => by simp [Heap.get, Tr.get_nil] at hg, fun b _ => rfl, hw.small, hw.base, fun b im hg => by simp [Heap.get, Tr.get_nil] at hg⟩
  refine Does.mono (hc φ w xs' hw0 hx (by rw [← hn]; exact fr)) fun e w' ⟨v', φ', he, hw', hext, hv⟩ => ?_
  have hold : ∀ c ob, w.heap[c]? = some ob → w'.heap[c]? = some ob := fun c ob hcb => hext.cfr c ob hcb fun b im _ hl => absurd rfl hl
  have hφ : ∀ b im, b < h.nx → φ' b = some im → φ b = some im := by
    intro b im hb hbi
    cases h0 : φ b with
    | none =>
      have h3 := (hext.dom b h0 (by rw [hbi]; simp)).1
      have h3 : h.nx ≤ b := h3
      omega
    | some im0 => have := hext.mono b im0 h0; rw [hbi] at this; cases this; rfl
  have hnew : ∀ b im, h.nx ≤ b → H1.get b ≠ none → φ' b = some im → w.heap.size ≤ im.cb := by
    intro b im hb hl hbi
    have hlt : b < H1.nx := by
      apply Classical.byContradiction; intro hh; exact hl (hw'.top b (by omega))
    rcases hext.newcb b im (fr b hb (by omega)) hbi with h3 | ⟨b0, im0, _, hl0, _⟩
    · exact h3
    · exact absurd rfl hl0
  have hlive : ∀ b o, h.nx ≤ b → h'.get b = some o → H1.get b = some o := by
    intro b o hb hg
    rcases h2 b hb with h3 | h3
    · rw [← h3]; exact hg
    · rw [h3, hw.top b hb] at hg; cases hg
  have hgl : ∀ b im, h'.get b ≠ none → φ' b = some im → G.gN ≤ im.cb := by
    intro b im hg hb
    by_cases hlt : b < h.nx
    · rw [h1 b hlt] at hg
      exact hw.glob b im hg (hφ b im hlt hb)
    · obtain ⟨o, ho⟩ := Option.ne_none_iff_exists'.1 hg
      exact hw'.glob b im (by rw [hlive b o (by omega) ho]; simp) hb
  refine ⟨v', φ', he, ⟨fun b o im hg hb => ?_, hw'.dom, fun b b' im im' hg hg' hb hb' hcb => ?_, fun b hb => ?_, by rw [hn]; exact hw'.small, hw'.base, hgl⟩, ⟨hext.mono, fun b h3 h4 => by rw [hn]; exact hext.dom b h3 h4, by rw [hn]; exact hext.nx, fun b hb hg => ?_, fun b hb _ => h1 b hb, fun c ob hcb _ => hold c ob hcb, hext.size, fun b im h3 h4 => ?_, hext.qt⟩, hv⟩
  · by_cases hlt : b < h.nx
    · rw [h1 b hlt] at hg
      obtain ⟨o', h3, h4⟩ := hw.live b o im hg (hφ b im hlt hb)
      exact ⟨o', hold _ _ h3, h4.mono hext.mono⟩
    · exact hw'.live b o im (hlive b o (by omega) hg) hb
  · have mixed : ∀ b b' im im', b < h.nx → h.nx ≤ b' → h'.get b' ≠ none → φ' b = some im → φ' b' = some im' → im.cb ≠ im'.cb := by
      intro b b' im im' hb hb' hg' hbi hbi' hcb
      obtain ⟨o', h3, _⟩ := hw.dom b im (hφ b im hb hbi)
      have := lt_of_some h3
      obtain ⟨o, ho⟩ := Option.ne_none_iff_exists'.1 hg'
      have := hnew b' im' hb' (by rw [hlive b' o hb' ho]; simp) hbi'
      omega
    by_cases hlt : b < h.nx <;> by_cases hlt' : b' < h.nx
    · rw [h1 b hlt] at hg; rw [h1 b' hlt'] at hg'
      exact hw.inj b b' im im' hg hg' (hφ b im hlt hb) (hφ b' im' hlt' hb') hcb
    · exact absurd hcb (mixed b b' im im' hlt (by omega) hg' hb hb')
    · exact absurd hcb.symm (mixed b' b im' im hlt' (by omega) hg hb' hb)
    · obtain ⟨o, ho⟩ := Option.ne_none_iff_exists'.1 hg
      obtain ⟨o', ho'⟩ := Option.ne_none_iff_exists'.1 hg'
      exact hw'.inj b b' im im' (by rw [hlive b o (by omega) ho]; simp) (by rw [hlive b' o' (by omega) ho']; simp) hb hb' hcb
  · have hnx : h.nx ≤ H1.nx := hext.nx
    rcases h2 b (by omega) with h3 | h3
    · rw [h3]; exact hw'.top b (by omega)
    · rw [h3]; exact hw.top b (by omega)
  · rw [h1 b hb] at hg; exact hg
  · rcases hext.newcb b im h3 h4 with h5 | ⟨b0, im0, _, hl0, _⟩
    · exact .inl h5
    · exact absurd rfl hl0
end
end Go.AE

namespace Go.AE
set_option linter.unusedSectionVars false
variable [G : Glob]

/-! ### what a seat's tables want -/
theorem Tr.build_get {α : Type} : ∀ (d : Nat) (f : Nat → Option α) (n : Nat), (Tr.build d f).get n = if n + 1 < 2 ^ d then f n else none
  | 0, f, n => by show none = _; rw [if_neg (by simp)]
  | d + 1, f, n => by
    show (Tr.node (Tr.build d fun n => f (2 * n + 1)) (f 0) (Tr.build d fun n => f (2 * n + 2))).get n = _
    rw [Tr.get_node]
    cases n with
    | zero => simp [Nat.pow_succ]; have := Nat.one_le_two_pow (n := d); intro h; omega
    | succ m =>
      simp only []
      by_cases h : m % 2 = 0
      · rw [if_pos h, Tr.build_get]
        have e1 : 2 * (m / 2) + 1 = m + 1 := by omega
        rw [e1]
        have : (m / 2 + 1 < 2 ^ d) ↔ (m + 1 + 1 < 2 ^ (d + 1)) := by rw [Nat.pow_succ]; omega
        simp only [this]
      · rw [if_neg h, Tr.build_get]
        have e1 : 2 * (m / 2) + 2 = m + 1 := by omega
        rw [e1]
        have : (m / 2 + 1 < 2 ^ d) ↔ (m + 1 + 1 < 2 ^ (d + 1)) := by rw [Nat.pow_succ]; omega
        simp only [this]

noncomputable def Tr.all {α : Type} (p : α → Bool) : Tr α → Bool
  | .nil => true
  | .node l o r => (match o with | some v => p v | none => true) && (l.all p && r.all p)
theorem Tr.all_get {α : Type} {p : α → Bool} : ∀ {t : Tr α} (_ : t.all p = true) {n : Nat} {v : α} (_ : t.get n = some v), p v = true
  | .nil, _, n, v, h => by rw [Tr.get_nil] at h; cases h
  | .node l o r, ha, n, v, h => by
    unfold Tr.all at ha
    simp only [Bool.and_eq_true] at ha
    rw [Tr.get_node] at h
    cases n with
    | zero => simp only [] at h; subst h; exact ha.1
    | succ m =>
      simp only [] at h
      split at h
      · exact Tr.all_get ha.2.1 h
      · exact Tr.all_get ha.2.2 h

def zsOK (y : Ty) : Bool := match y.zero with | some z => Nat.beq z.cells.length y.size | none => true
theorem typed_of {P : Program} {E : Env} {d : Nat} (ht : E.ty = (Tr.build d (tyOf P)).get) (hz : (Tr.build d (tyOf P)).all zsOK = true) : E.Typed P := by
  refine ⟨fun t y h => ?_, fun t y z h hy => ?_⟩
  · rw [ht, Tr.build_get] at h
    split at h
    · exact h
    · cases h
  · rw [ht] at h
    have := Tr.all_get hz h
    unfold zsOK at this
    rw [hy] at this
    exact Nat.eq_of_beq_eq_true this

def fnOK (fn : Func) : Bool := !(fn.name == "runtime.NumGoroutine")
noncomputable def fnDraw (fn : Func) : Bool := match fn.body with | some b => drawOK b | none => true
theorem fns_of {P : Program} {E : Env} {d : Nat} (ht : E.fn = (Tr.build d fun f => P.funcs[f]?).get) (h1 : (Tr.build d fun f => P.funcs[f]?).all fnOK = true) (h2 : (Tr.build d fun f => P.funcs[f]?).all fnDraw = true) :
    ∀ f fn, E.fn f = some fn → P.funcs[f]? = some fn ∧ (fn.name == "runtime.NumGoroutine") = false ∧ ∀ body, fn.body = some body → drawOK body = true := by
  intro f fn h
  rw [ht] at h
  have a := Tr.all_get h1 h
  have b := Tr.all_get h2 h
  rw [Tr.build_get] at h
  split at h
  · refine ⟨h, by simpa [fnOK] using a, fun body hb => ?_⟩
    unfold fnDraw at b
    rw [hb] at b
    exact b
  · cases h

/-! closures that recover, where nothing panics -/
theorem idle_calls {P : Program} {f : FuncId} {fn : Func} {i0 i1 i2 ib a b d : Nat} {c : Call} {t0 t1 t2 tt tt' : TypeId} {p0 p1 p2 : String} {Y : Code} {ms : Array (String × TypeId)} (hf : P.funcs[f]? = some fn)
    (hb : fn.body = some (.seq (.region i0 #[⟨some a, .call c, t0, p0, #[], none⟩] false) (.block ib (.seq (.region i1 #[⟨some b, .binOp .eql tt (.tmp a) (.const .nilIface) tt', t1, p1, #[], none⟩] false)
      (.cond (.tmp b) (.region i2 #[⟨some d, .assign (.tmp a), t2, p2, #[], none⟩] false) Y)))))
    (hc : c.callee = .builtin .recover) (hca : c.args = #[]) (hu : P.underlying tt = some (.interface ms)) (ha : a < fn.ntmps) (hbn : b < fn.ntmps) (hr : fn.results = #[]) (args : Array Value) (w : World) :
    CallsD P f args .returning w fun e u w' => (∃ v, e = .returned v) ∧ u = .returning ∧ Keeps w w' := by
  refine callsD_of_wpS hf hb fun c₀ cs hmode => ?_
  have hsz : ∀ k, k < fn.ntmps → k < (args ++ Array.replicate (fn.ntmps - args.size) undef).size := fun k hk => by simp; omega
  apply wpS_seq
  apply wpS_region
  have hrec : ∀ ρ, (execOp ρ ⟨some a, .call c, t0, p0, #[], none⟩).run P w = .ok .recover w := by
    intro ρ
    simp [execOp, resolve, hc, hca, invoke, builtin]
  simp only [wpOpsS, List.range_succ_eq_map, List.range_zero, List.map_nil, Array.size, List.length, List.getElem?_toArray, List.getElem?_cons_zero, Region.wanted, if_true, hrec, recoverD, hmode, Exit.thenS]
  generalize hT : ({ tmps := args ++ Array.replicate (fn.ntmps - args.size) undef, defers := [] } : Go.Act) = A
  have hA : A.tmps.size = (args ++ Array.replicate (fn.ntmps - args.size) undef).size := by rw [← hT]
  have hAd : A.defers = [] := by rw [← hT]
  have h1 := hsz a ha
  have h2 := hsz b hbn
  rw [← hA] at h1 h2
  refine wpS_of_wp (wp_block (wp_seq (wp_region_list ?_)))
  have he1 : (A.put (some a) .nilIface).eval (.tmp a) = .nilIface := by simp [Go.Act.eval, Go.Act.put, h1]
  have hop : (execOp (A.put (some a) .nilIface).eval ⟨some b, .binOp .eql tt (.tmp a) (.const .nilIface) tt', t1, p1, #[], none⟩).run P w = .ok (.value (.bool true)) w := by
    have he2 : (A.put (some a) .nilIface).eval (.const .nilIface) = .nilIface := rfl
    obtain ⟨v', h3, h4⟩ := eqOut_ok (P := P) (w := w) (φ := fun _ => none) (op := .eql) (t := tt) (p := .nilIface) (q := .nilIface) (r := some true) (v := .bool true) rfl fun b hb => by
      cases hb
      refine ⟨run_equal fun d => ?_, by simp, by simp, by simp, by simp⟩
      show (Op.equalIn (d + 1) tt .nilIface .nilIface).run P w = .ok true w
      simp [Op.equalIn, run_underlying' w hu]
    simp only [VRel] at h4
    subst h4
    have h5 : (eqGuard .eql tt (.tmp a) (.const .nilIface) .nilIface .nilIface).run P w = .ok () w := eqGuard_const (by simp [isConst])
    simp only [execOp, he1, he2, Sem.run_bind, h5, Result.andThen_ok, h3]
    rfl
  unfold wpList
  rw [if_pos (by simp [Region.wanted])]
  refine .inl ?_
  unfold Oper.wp
  rw [hop, Oper.upon_value]
  show Exit.then _ _ .normal _ _
  refine wp_cond_true ?_ (wp_region_list ?_)
  · simp [Go.Act.eval, Go.Act.put, h2]
  · have hop2 : ∀ A' : Go.Act, (execOp A'.eval ⟨some d, .assign (.tmp a), t2, p2, #[], none⟩).run P w = .ok (.value (A'.eval (.tmp a))) w := fun A' => rfl
    unfold wpList
    rw [if_pos (by simp [Region.wanted])]
    refine .inl ?_
    unfold Oper.wp
    rw [hop2, Oper.upon_value]
    unfold wpList
    simp only [Exit.inBlock]
    unfold bodyPostS
    refine ⟨by simp [Go.Act.put, hAd], c₀.mode, by cases c₀; rfl, .tuple #[], ?_, ⟨_, rfl⟩, hmode, Keeps.refl w⟩
    simp [results, hr]

/-! flat structs held against each other -/
theorem eqFields_flat {P : Program} {φ : Phi} {p q : Array Value} {d : Nat} {w : World} : ∀ (fs : List Field) (ts : List TD) (k : Nat) (xs ys : List AV) (r : Bool), eqList ts xs ys = some r → VRels φ xs (p.toList.drop k) → VRels φ ys (q.toList.drop k) → fs.length = ts.length →
    (∀ (i : Nat) f, fs[i]? = some f → f.offset = k + i ∧ f.name ≠ "_" ∧ ∃ de, P.underlying f.type = some de ∧ isAggD de = false ∧ ts[i]? = some (tdOf P de)) →
    (Op.eqFields (d + 1) p q fs).run P w = .ok r w
  | [], ts, k, xs, ys, r, he, hx, hy, hl, _ => by
    have : ts = [] := by cases ts with | nil => rfl | cons _ _ => simp at hl
    subst this
    cases xs <;> cases ys <;> simp [eqList] at he
    subst he; rfl
  | f :: fs, ts, k, xs, ys, r, he, hx, hy, hl, hf => by
    cases ts with
    | nil => simp at hl
    | cons td ts =>
     cases xs with
     | nil => simp [eqList] at he
     | cons x xs => cases ys with
      | nil => simp [eqList] at he
      | cons y ys =>
        simp only [VRels] at hx hy
        obtain ⟨x', xl, hxl, hx1, hx2⟩ := hx
        obtain ⟨y', yl, hyl, hy1, hy2⟩ := hy
        have hpx : p.toList[k]? = some x' := by
          have := congrArg (·[0]?) hxl
          simpa using this
        have hqy : q.toList[k]? = some y' := by
          have := congrArg (·[0]?) hyl
          simpa using this
        have hxl' : p.toList.drop (k + 1) = xl := by
          have := congrArg (List.drop 1) hxl
          simpa [List.drop_drop] using this
        have hyl' : q.toList.drop (k + 1) = yl := by
          have := congrArg (List.drop 1) hyl
          simpa [List.drop_drop] using this
        obtain ⟨ho, hn, de, hu, hag, htd⟩ := hf 0 f rfl
        have htd : td = tdOf P de := by simpa using htd
        subst htd
        have hagg : (isAgg f.type).run P w = .ok false w := by rw [run_isAgg' w hu, hag]
        have hpart : ∀ (z : Array Value) (v : Value), z.toList[k]? = some v → (part f.type z f.offset).run P w = .ok v w := by
          intro z v hz
          have hz' : z[k]? = some v := by simpa using hz
          rw [ho]
          simp only [part, Sem.run_bind, hagg, Result.andThen_ok, Bool.false_eq_true, if_false, Nat.add_zero, hz', Sem.run_pure]
        have hrest : ∀ r', eqList ts xs ys = some r' → (Op.eqFields (d + 1) p q fs).run P w = .ok r' w := fun r' he' =>
          eqFields_flat fs ts (k + 1) xs ys r' he' (by rw [hxl']; exact hx2) (by rw [hyl']; exact hy2) (by simpa using hl) fun i g hg => by
            obtain ⟨h1, h2, de', h3, h4, h5⟩ := hf (i + 1) g (by simpa using hg)
            exact ⟨by omega, h2, de', h3, h4, by simpa using h5⟩
        have hsc : ∀ b, eqKey (tdOf P de) x y = some b → (Op.equalIn (d + 1) f.type x' y').run P w = .ok b w := by
          intro b hb
          unfold eqKey at hb
          split at hb
          · rename_i hd
            have := tdOf_bool hd; subst this
            simp only [VRel] at hx1 hy1
            subst hx1; subst hy1
            rw [run_equalIn_bool w d f.type _ _ hu]
            cases hb
            rename_i b1 b2
            cases b1 <;> cases b2 <;> rfl
          · rename_i kd k1 a1 k2 b1 hd
            simp only [VRel] at hx1 hy1
            subst hx1; subst hy1
            split at hb
            · rename_i hk
              have := sameKind_eq hk; subst this
              cases hb
              have : ∃ k', de = .int k' := by
                unfold tdOf at hd
                split at hd <;> (try split at hd) <;> first | (cases hd; done) | exact ⟨_, rfl⟩
              obtain ⟨k', rfl⟩ := this
              rw [run_equalIn_int w d f.type _ _ _ _ hu, eqF_eq]
              rfl
            · cases hb
          · rename_i s1 s2 hd
            simp only [VRel] at hx1 hy1
            obtain ⟨b1, rfl, rfl⟩ := hx1
            obtain ⟨b2, rfl, rfl⟩ := hy1
            cases hb
            have : de = .string := by
              unfold tdOf at hd
              split at hd <;> (try split at hd) <;> first | (cases hd; done) | rfl
            subst this
            rw [run_equalIn_string w d f.type _ _ hu, eqStr_rel rfl rfl, beq_toListBytes]
          · cases hb
        simp only [Op.eqFields, if_pos hn, Sem.run_bind, hpart p x' hpx, hpart q y' hqy, Result.andThen_ok]
        simp only [eqList] at he
        cases hb : eqKey (tdOf P de) x y with
        | none => rw [hb] at he; cases he
        | some b =>
          rw [hb] at he
          rw [hsc b hb]
          cases b with
          | true =>
            simp only [Result.andThen_ok, Bool.not_true, Bool.false_eq_true, if_false]
            exact hrest r he
          | false =>
            cases he
            simp

theorem flat_eqs {P : Program} {E : Env} (hall : ∀ t ts, E.eqT t = some ts → P.underlying t = some (.struct (P.fieldsOf t)) ∧ P.stoodInHeld t = false ∧ P.eqGuardType P.depth t = false ∧ (P.fieldsOf t).toList.length = ts.length ∧
    ∀ (i : Nat) f, (P.fieldsOf t).toList[i]? = some f → f.offset = i ∧ f.name ≠ "_" ∧ ∃ de, P.underlying f.type = some de ∧ isAggD de = false ∧ ts[i]? = some (tdOf P de)) : E.Eqs P := by
  refine ⟨fun t ts ht φ xs ys p q r w x y op he hx hy => ?_⟩
  obtain ⟨h1, h2, h3, h4, h5⟩ := hall t ts ht
  refine ⟨?_, run_eqGuard_agg w op t x y p q h3⟩
  show (Op.equalIn (9998 + 1 + 1) t (.agg p) (.agg q)).run P w = .ok r w
  rw [run_equalIn_struct w (9998 + 1) t p q h1 h2]
  exact eqFields_flat (P.fieldsOf t).toList ts 0 xs ys r he hx hy h4 fun i f hf => by
    obtain ⟨a, b⟩ := h5 i f hf
    exact ⟨by omega, b⟩

def tdEq : TD → TD → Bool
  | .bool, .bool => true
  | .int k, .int k' => sameKind k k'
  | .string, .string => true
  | _, _ => false
theorem tdEq_true {a b : TD} (h : tdEq a b = true) : a = b := by
  cases a <;> cases b <;> first | rfl | cases h | (rw [sameKind_eq h])
def flatF (P : Program) : List Field → List TD → Nat → Bool
  | [], [], _ => true
  | f :: fs, t :: ts, k => Nat.beq f.offset k && (!(f.name == "_") && ((match P.underlying f.type with | some de => !isAggD de && tdEq t (tdOf P de) | none => false) && flatF P fs ts (k + 1)))
  | _, _, _ => false
theorem flatF_spec {P : Program} : ∀ {fs : List Field} {ts : List TD} {k : Nat}, flatF P fs ts k = true → fs.length = ts.length ∧
    ∀ (i : Nat) f, fs[i]? = some f → f.offset = k + i ∧ f.name ≠ "_" ∧ ∃ de, P.underlying f.type = some de ∧ isAggD de = false ∧ ts[i]? = some (tdOf P de)
  | [], [], k, _ => ⟨rfl, fun i f h => by simp at h⟩
  | [], _ :: _, _, h => by cases h
  | _ :: _, [], _, h => by cases h
  | f :: fs, t :: ts, k, h => by
    unfold flatF at h
    simp only [Bool.and_eq_true] at h
    obtain ⟨h1, h2, h3, h4⟩ := h
    obtain ⟨hl, hr⟩ := flatF_spec h4
    refine ⟨by simp [hl], fun i g hg => ?_⟩
    cases i with
    | zero =>
      simp at hg; subst hg
      refine ⟨Nat.eq_of_beq_eq_true h1, by simpa using h2, ?_⟩
      split at h3
      · rename_i de hde
        simp only [Bool.and_eq_true] at h3
        exact ⟨de, hde, by simpa using h3.1, by rw [← tdEq_true h3.2]; rfl⟩
      · cases h3
    | succ i =>
      obtain ⟨a, b⟩ := hr i g (by simpa using hg)
      exact ⟨by omega, by simpa using b⟩
def flatOK (P : Program) (t : Nat) (ts : List TD) : Bool :=
  (match P.underlying t with | some (.struct _) => true | _ => false) && (!P.stoodInHeld t && (!P.eqGuardType P.depth t && flatF P (P.fieldsOf t).toList ts 0))
theorem flat_eqs' {P : Program} {E : Env} (hall : ∀ t ts, E.eqT t = some ts → flatOK P t ts = true) : E.Eqs P := flat_eqs fun t ts ht => by
  have h := hall t ts ht
  unfold flatOK at h
  simp only [Bool.and_eq_true] at h
  obtain ⟨h1, h2, h3, h4⟩ := h
  obtain ⟨hl, hr⟩ := flatF_spec h4
  refine ⟨?_, by simpa using h2, by simpa using h3, hl, fun i f hf => by
    obtain ⟨a, b⟩ := hr i f hf
    exact ⟨by omega, b⟩⟩
  unfold Program.fieldsOf
  split at h1
  · rename_i fs hu; rw [hu]
  · cases h1

/-! blocks that are laid as they were reckoned -/
noncomputable def pasteK {β : Type} (l : List (Nat × AO)) : Tr AO → (Tr AO → β) → β :=
  List.rec (motive := fun _ => Tr AO → (Tr AO → β) → β) (fun t k => k t) (fun p _ ih t k => Tr.setK 40 t p.1 (some p.2) fun t => ih t k) l
noncomputable def pasteT : List (Nat × AO) → Tr AO → Tr AO
  | [], t => t
  | p :: l, t => pasteT l (t.setT 40 p.1 (some p.2))
theorem pasteK_eq {β : Type} : ∀ (l : List (Nat × AO)) (t : Tr AO) (k : Tr AO → β), pasteK l t k = k (pasteT l t)
  | [], t, k => rfl
  | p :: l, t, k => by
    show Tr.setK 40 t p.1 (some p.2) (fun t => pasteK l t k) = _
    rw [Tr.setK_eq, pasteK_eq l]
    rfl
def inL (l : List (Nat × AO)) (b : Nat) : Option AO := match l with
  | [] => none
  | p :: l => match inL l b with | some o => some o | none => if p.1 = b then some p.2 else none
theorem pasteT_get : ∀ (l : List (Nat × AO)) (t : Tr AO) (b : Nat), (∀ p ∈ l, p.1 < bigN) → (pasteT l t).get b = match inL l b with | some o => some o | none => t.get b
  | [], t, b, _ => rfl
  | p :: l, t, b, h => by
    show (pasteT l (t.setT 40 p.1 (some p.2))).get b = _
    rw [pasteT_get l _ b fun q hq => h q (.tail _ hq)]
    have hp := h p (.head _)
    rw [Tr.get_setT 40 _ _ _ _ (by unfold bigN at hp; omega)]
    show _ = match (match inL l b with | some o => some o | none => if p.1 = b then some p.2 else none) with | some o => some o | none => t.get b
    cases inL l b with
    | some o => rfl
    | none =>
      simp only []
      by_cases e : b = p.1
      · rw [if_pos e, if_pos e.symm]
      · rw [if_neg e, if_neg fun h => e h.symm]
theorem inL_mem : ∀ {l : List (Nat × AO)} {b : Nat} {o : AO}, inL l b = some o → (b, o) ∈ l
  | p :: l, b, o, h => by
    have h : (match inL l b with | some o => some o | none => if p.1 = b then some p.2 else none) = some o := h
    cases hl : inL l b with
    | some o' => rw [hl] at h; cases h; exact .tail _ (inL_mem hl)
    | none =>
      rw [hl] at h
      simp only [] at h
      split at h
      · rename_i e; cases h; subst e; exact .head _
      · cases h
def AO.eq : AO → AO → Bool
  | .cells c, .cells d => AV.eqs c d
  | .map es c, .map es' c' => Nat.beq c c' && eqEs es es'
  | _, _ => false
where eqEs : List (AV × AV × Nat) → List (AV × AV × Nat) → Bool
  | [], [] => true
  | (a, b, n) :: l, (a', b', n') :: l' => AV.eq a a' && (AV.eq b b' && (Nat.beq n n' && eqEs l l'))
  | _, _ => false
theorem AO.eqEs_true : ∀ {l l' : List (AV × AV × Nat)}, AO.eq.eqEs l l' = true → l = l'
  | [], l', h => by cases l' <;> simp [AO.eq.eqEs] at h; rfl
  | (a, b, n) :: l, l', h => by
    cases l' with
    | nil => simp [AO.eq.eqEs] at h
    | cons x l' =>
      obtain ⟨a', b', n'⟩ := x
      simp [AO.eq.eqEs] at h
      rw [AV.eq_true h.1, AV.eq_true h.2.1, h.2.2.1, AO.eqEs_true h.2.2.2]
theorem AO.eq_true {a b : AO} (h : AO.eq a b = true) : a = b := by
  cases a <;> cases b <;> simp [AO.eq] at h
  · rw [AV.eqs_true h]
  · rw [AO.eqEs_true h.2, h.1]
def hasO (o : AO) : Option AO → Bool
  | some o' => AO.eq o o'
  | none => false
noncomputable def blocksOK (h : Heap) (k : Nat) : List (Nat × AO) → Bool
  | [] => true
  | (b, o) :: l => Nat.ble k b && (Nat.blt b h.nx && (hasO o (h.get b) && blocksOK h k l))
noncomputable def resOK (v : AV) (n k : Nat) (l : List (Nat × AO)) : Rs → Bool
  | .val u h => AV.eq u v && (Nat.beq h.nx n && blocksOK h k l)
  | _ => false

theorem blocksOK_spec {h : Heap} {k : Nat} : ∀ {l : List (Nat × AO)}, blocksOK h k l = true → ∀ p ∈ l, k ≤ p.1 ∧ p.1 < h.nx ∧ h.get p.1 = some p.2
  | [], _, p, hp => by cases hp
  | (b, o) :: l, hb, p, hp => by
    unfold blocksOK at hb
    simp only [Bool.and_eq_true, Nat.ble_eq] at hb
    obtain ⟨h1, h2, h3, h4⟩ := hb
    cases hp with
    | head =>
      refine ⟨h1, (blt_iff _ _).1 h2, ?_⟩
      unfold hasO at h3
      split at h3
      · rename_i o' ho; rw [ho, AO.eq_true h3]
      · cases h3
    | tail _ hp => exact blocksOK_spec h4 p hp

/-- what was reckoned over no memory, laid into any -/
theorem pasted {P : Program} {E : Env} (hS : ∀ n, Sound P E (ev E n)) {N f : Nat} {xs : List AV} {v : AV} {n k : Nat} {l : List (Nat × AO)} (hr : resOK v n k l (ev E N (.call f xs ⟨.nil, k⟩)) = true) (hn : n ≤ bigN) {h : Heap} (hk : h.nx = k) :
    CallOK P f xs h v ⟨pasteT l h.t, n⟩ := by
  unfold resOK at hr
  split at hr
  · rename_i u H1 he
    simp only [Bool.and_eq_true] at hr
    obtain ⟨h1, h2, h3⟩ := hr
    have := AV.eq_true h1; subst this
    have hnn := Nat.eq_of_beq_eq_true h2
    have hspec := blocksOK_spec h3
    have hc := (hS N).call f xs ⟨.nil, k⟩ u H1 he
    have hget : ∀ b, (⟨pasteT l h.t, n⟩ : Heap).get b = match inL l b with | some o => some o | none => h.get b := fun b => pasteT_get l h.t b fun p hp => by have := (hspec p hp).2.1; omega
    refine frame_nil hc hk hnn.symm (fun b hb => ?_) fun b hb => ?_
    · rw [hget]
      cases hl : inL l b with
      | some o => have := (hspec _ (inL_mem hl)).1; simp only at this; omega
      | none => rfl
    · rw [hget]
      cases hl : inL l b with
      | some o => exact .inl (hspec _ (inL_mem hl)).2.2.symm
      | none => exact .inr rfl
  · cases hr
end Go.AE

namespace Go.AE
set_option linter.unusedSectionVars false
variable [G : Glob]

/-! ### contracts of the library's functions, for the evaluator -/
def isPre : List Nat → List Nat → Bool
  | [], _ => true
  | _ :: _, [] => false
  | a :: xs, b :: ys => match Nat.beq a b with | true => isPre xs ys | false => false
def findSub : List Nat → List Nat → Bool
  | [], p => isNil p
  | c :: cs, p => match isPre p (c :: cs) with | true => true | false => findSub cs p
def idxOf (c : Nat) : List Nat → Nat → Int
  | [], _ => .negSucc 0
  | x :: l, i => match Nat.beq x c with | true => .ofNat i | false => idxOf c l (Nat.succ i)

theorem beq_toNat (a b : UInt8) : Nat.beq a.toNat b.toNat = (a == b) := by
  rw [Bool.eq_iff_iff, Nat.beq_eq, beq_iff_eq]
  exact ⟨fun h => UInt8.toNat_inj.1 h, fun h => by rw [h]⟩
theorem isPre_eq : ∀ (p s : List UInt8), isPre (p.map (·.toNat)) (s.map (·.toNat)) = p.isPrefixOf s
  | [], s => by cases s <;> rfl
  | a :: p, [] => rfl
  | a :: p, b :: s => by
    show (match Nat.beq a.toNat b.toNat with | true => isPre (p.map (·.toNat)) (s.map (·.toNat)) | false => false) = ((a == b) && p.isPrefixOf s)
    rw [beq_toNat]
    cases a == b with
    | true => exact isPre_eq p s
    | false => rfl
theorem findSub_eq : ∀ (s p : List UInt8), findSub (s.map (·.toNat)) (p.map (·.toNat)) = Lib.contains s p
  | [], p => by
    cases p with
    | nil => rfl
    | cons a p => rfl
  | b :: s, p => by
    have ih := findSub_eq s p
    have hge := Lib.index_ge s p
    show (match isPre (p.map fun (x : UInt8) => x.toNat) ((b :: s).map fun (x : UInt8) => x.toNat) with | true => true | false => findSub (s.map fun (x : UInt8) => x.toNat) (p.map fun (x : UInt8) => x.toNat)) = _
    rw [isPre_eq, ih]
    unfold Lib.contains
    rw [show Lib.index (b :: s) p = if p.isPrefixOf (b :: s) then 0 else if Lib.index s p == -1 then -1 else Lib.index s p + 1 from rfl]
    cases hp : p.isPrefixOf (b :: s) with
    | true => simp
    | false =>
      by_cases hi : Lib.index s p = -1
      · simp [hi]
      · have : ¬ ((Lib.index s p == -1) = true) := by simpa using hi
        simp only [Bool.false_eq_true, if_false, this]
        congr 1
        apply propext
        omega

noncomputable def contains1 : List AV → Heap → Option (AV × Heap)
  | [.str s, .str p], h => (match Nat.blt (lenN s) 4294967281 with | true => some (.bool (findSub s p), h) | false => none)
  | _, _ => none

theorem contains_ok {P : Program} {f : Nat} (hn : ∀ (s sub : ByteArray) (w : World), G.Base w → s.size < 4294967281 → Does P f #[.string s, .string sub] w fun e w' => e = .returned (.bool (Lib.contains s.data.toList sub.data.toList)) ∧ w' = w) :
    ∀ xs h v h', contains1 xs h = some (v, h') → CallOK P f xs h v h' := by
  intro xs h v h' he φ w xs' hw hx fr
  unfold contains1 at he
  split at he
  · rename_i s p h
    split at he
    · rename_i hlt
      cases he
      simp only [VRels] at hx
      obtain ⟨y, ys, hxs, hy, z, zs, rfl, hz, rfl⟩ := hx
      simp only [VRel] at hy hz
      obtain ⟨b1, rfl, rfl⟩ := hy
      obtain ⟨b2, rfl, rfl⟩ := hz
      rw [arr_of_toList hxs]
      have hsz : b1.size < 4294967281 := by
        have := (blt_iff _ _).1 hlt
        rw [lenN_eq, List.length_map] at this
        simpa using this
      refine Does.mono (hn b1 b2 w hw.base hsz) fun e w' ⟨h1, h2⟩ => ?_
      subst h2
      refine ⟨_, φ, h1, hw, Ext.refl φ h w', ?_⟩
      simp only [VRel, findSub_eq]
    · cases he
  · cases he

theorem idxOf_eq (c : UInt8) : ∀ (l : List UInt8) (i : Nat), idxOf c.toNat (l.map (·.toNat)) i = if Lib.indexByte l c = -1 then -1 else Lib.indexByte l c + i
  | [], i => rfl
  | x :: l, i => by
    have ih := idxOf_eq c l (i + 1)
    have hge := Lib.indexByte_ge l c
    show (match Nat.beq x.toNat c.toNat with | true => Int.ofNat i | false => idxOf c.toNat (l.map fun (x : UInt8) => x.toNat) (i + 1)) = _
    rw [beq_toNat, ih, show Lib.indexByte (x :: l) c = if x == c then 0 else if Lib.indexByte l c == -1 then -1 else Lib.indexByte l c + 1 from rfl]
    cases hxc : x == c with
    | true => simp
    | false =>
      by_cases hi : Lib.indexByte l c = -1
      · simp [hi]
      · have h1 : ¬ ((Lib.indexByte l c == -1) = true) := by simpa using hi
        simp only [Bool.false_eq_true, if_false, h1, hi]
        rw [if_neg (by omega)]
        omega

def ixb1 : List AV → Option AV
  | [.str s, .int k (.ofNat c)] => (match sameKind k .u8 && Nat.blt c 256 with | true => some (.int .i64 (idxOf c s 0)) | false => none)
  | _ => none

theorem ixb_ok {P : Program} {f : Nat} {fn : Func} (hf : P.funcs[f]? = some fn) (hname : (fn.name == "runtime.NumGoroutine") = false) (hb : fn.body.isNone = true) (hn : Extern.findNext fn = none)
    (he : Extern.find fn = some Extern.BytealgIndexByte.indexByte) : ∀ xs v, ixb1 xs = some v → ∀ (φ : Phi) (w : World) (xs' : Array Value), VRels φ xs xs'.toList →
      Does P f xs' w fun e w' => ∃ v', e = .returned v' ∧ Keeps w w' ∧ VRel φ v v' := by
  intro xs v hx φ w xs' hr
  unfold ixb1 at hx
  split at hx
  · rename_i s k c
    split at hx
    · rename_i hc
      simp only [Bool.and_eq_true] at hc
      have hk := sameKind_eq hc.1; subst hk
      have hlt := (blt_iff _ _).1 hc.2
      cases hx
      simp only [VRels] at hr
      obtain ⟨y, ys, hxs, hy, z, zs, rfl, hz, rfl⟩ := hr
      simp only [VRel] at hy hz
      obtain ⟨b1, rfl, rfl⟩ := hy
      subst hz
      rw [arr_of_toList hxs]
      unfold Does
      rw [run_callFunc_extern hf hname hb hn he, Lib.run_indexByteString]
      simp only [Result.andThen_ok]
      refine ⟨_, rfl, Keeps.refl w, ?_⟩
      simp only [VRel]
      have hcc : c = (c.toUInt8).toNat := by
        rw [UInt8.toNat_ofNat']
        omega
      have : idxOf c (b1.data.toList.map (·.toNat)) 0 = Lib.indexByte b1.data.toList (Int.ofNat c).toNat.toUInt8 := by
        have h1 := idxOf_eq c.toUInt8 b1.data.toList 0
        rw [← hcc] at h1
        rw [h1]
        have hge := Lib.indexByte_ge b1.data.toList c.toUInt8
        show _ = Lib.indexByte b1.data.toList c.toUInt8
        split
        · rename_i h2; exact h2.symm
        · simp
      rw [this]
    · cases hx
  · cases hx

theorem clone_ok {P : Program} {f : Nat} {fn : Func} (hf : P.funcs[f]? = some fn) (hname : (fn.name == "runtime.NumGoroutine") = false) (hb : fn.body.isNone = true) (hn : Extern.findNext fn = none)
    (he : Extern.find fn = some Extern.MapsClone.clone) : ∀ (t r : Nat) (es : Array MapEntry) (c : Nat) (w : World), w.heap[r]? = some (.map es c) →
      (callFunc f #[.iface t (.map (some r))]).run P w = .ok (.value (.iface t (.map (some w.heap.size)))) { w with heap := w.heap.push (.map es c) } := by
  intro t r es c w hr
  rw [run_callFunc_extern hf hname hb hn he, Go.Proofs.run_maps_clone_sl w t hr]
  rfl
end Go.AE
