/-
  The walks through Differ and through the law. No condition but that the lists can be read.
-/
import Derived.Test.YtikhphdimgcbkaaGreatDoorW
import Derived.Test.YtikhphdimgcbkaaGreatDoorK2
set_option linter.unusedVariables false
set_option linter.unusedSimpArgs false
namespace Go.Proofs.YtikhphdimgcbkaaGreatDoor
open Go Go.RowKit

/-- a list of lists of numbers, as it lies in memory -/
structure Rows2 (w : World) (AA : Option Addr) (la : Nat) (A : Nat → Option Addr) (L C : Nat → Nat) (Z : Nat → List Int) : Prop where
  nil : AA = none → la = 0
  len : la ≤ maxLen
  out : ∀ a, AA = some a → ∀ r, r < la → w.cell? (a.add r) = some (.slice (A r) (L r) (C r))
  inn : ∀ r, r < la → L r ≤ maxLen ∧ (A r = none → L r = 0) ∧ ∀ a, A r = some a → ∀ c, c < L r → w.cell? (a.add c) = some (.int .i32 ((Z r).getD c 0))

def rowEq (X Y : List Int) (m n : Nat) : Bool := decide (m = n) && upTo X Y m
theorem upTo_self (X : List Int) : ∀ n, upTo X X n = true
  | 0 => rfl
  | n + 1 => by show (upTo X X n && decide _) = true; rw [upTo_self X n]; simp
theorem rowEq_self (X : List Int) (n : Nat) : rowEq X X n n = true := by simp [rowEq, upTo_self]

/-- the least place below n at which two are unlike -/
def lst (eq : Nat → Bool) : Nat → Option Nat
  | 0 => none
  | n + 1 => match lst eq n with | some i => some i | none => if eq n then none else some n
def dif (eq : Nat → Bool) (la lb : Nat) : Int := match lst eq (min la lb) with | some i => i | none => if la = lb then -1 else (min la lb : Nat)
theorem lst_next {eq : Nat → Bool} {k : Nat} (h : lst eq k = none) (he : eq k = true) : lst eq (k + 1) = none := by
  show (match lst eq k with | some i => some i | none => if eq k then none else some k) = none
  rw [h]; simp [he]
theorem lst_hit {eq : Nat → Bool} {k : Nat} (h : lst eq k = none) (he : eq k = false) : ∀ n, k < n → lst eq n = some k
  | 0, hn => by omega
  | n + 1, hn => by
    show (match lst eq n with | some i => some i | none => if eq n then none else some n) = some k
    by_cases e : k = n
    · subst e; rw [h]; simp [he]
    · rw [lst_hit h he n (by omega)]
theorem lst_all {eq : Nat → Bool} (h : ∀ i, eq i = true) : ∀ n, lst eq n = none
  | 0 => rfl
  | n + 1 => lst_next (lst_all h n) (h n)
theorem dif_self {eq : Nat → Bool} (h : ∀ i, eq i = true) (n : Nat) : dif eq n n = -1 := by
  simp [dif, lst_all h]
theorem dif_hit {eq : Nat → Bool} {k la lb : Nat} (h : lst eq k = none) (he : eq k = false) (ha : k < la) (hb : k < lb) : dif eq la lb = k := by
  unfold dif; rw [lst_hit h he (min la lb) (by omega)]
theorem dif_end {eq : Nat → Bool} {k la lb : Nat} (h : lst eq k = none) (hk : k = min la lb) (hne : la ≠ lb) : dif eq la lb = k := by
  unfold dif; rw [← hk, h]; simp [hne]
theorem dif_no {eq : Nat → Bool} {k : Nat} (h : lst eq k = none) : dif eq k k = -1 := by
  unfold dif; rw [show min k k = k by omega, h]; simp
theorem dif_ge {eq : Nat → Bool} {la lb : Nat} (ha : la ≤ maxLen) (hb : lb ≤ maxLen) : -1 ≤ dif eq la lb := by
  unfold dif; split
  · omega
  · split <;> omega

section
variable {w : World} {AA BB : Option Addr} {la lb : Nat} {A A' : Nat → Option Addr} {L C L' C' : Nat → Nat} {Z Z' : Nat → List Int}

theorem row_same (H : Rows2 w AA la A L C Z) (H' : Rows2 w BB lb A' L' C' Z') {i j : Nat} (hi : i < la) (hj : j < lb) (n : Nat) :
    Calls Tryz.prog 5 #[.slice (A i) (L i) (C i), .slice (A' j) (L' j) (C' j)] (w.drewN n) fun e w' => e = .returned (.bool (rowEq (Z i) (Z' j) (L i) (L' j))) ∧ ∃ m, w' = (w.drewN n).drewN m := by
  obtain ⟨h1, h2, h3⟩ := H.inn i hi
  obtain ⟨g1, g2, g3⟩ := H'.inn j hj
  by_cases hl : L i = L' j
  · rw [← hl] at g1 g2 g3 ⊢
    have hr : rowEq (Z i) (Z' j) (L i) (L i) = upTo (Z i) (Z' j) (L i) := by simp [rowEq]
    rw [hr]
    by_cases h0 : L i = 0
    · rw [h0]; exact same_zero _ _ _ _ _
    · cases ha : A i with
      | none => exact absurd (h2 ha) h0
      | some a => cases hb : A' j with
        | none => exact absurd (g2 hb) h0
        | some b => exact same_some a b _ _ _ _ _ _ h1 (fun c hc => h3 a ha c hc) (fun c hc => g3 b hb c hc)
  · have hr : rowEq (Z i) (Z' j) (L i) (L' j) = false := by simp [rowEq, hl]
    rw [hr]
    exact same_len _ _ _ _ _ _ _ hl
theorem row_equal (H : Rows2 w AA la A L C Z) (H' : Rows2 w BB lb A' L' C' Z') {i j : Nat} (hi : i < la) (hj : j < lb) (n : Nat) :
    Calls Tryz.prog 9 #[.slice (A i) (L i) (C i), .slice (A' j) (L' j) (C' j)] (w.drewN n) fun e w' => e = .returned (.bool (rowEq (Z i) (Z' j) (L i) (L' j))) ∧ ∃ m, w' = (w.drewN n).drewN m := by
  obtain ⟨h1, h2, h3⟩ := H.inn i hi
  obtain ⟨g1, g2, g3⟩ := H'.inn j hj
  by_cases hl : L i = L' j
  · rw [← hl] at g1 g2 g3 ⊢
    have hr : rowEq (Z i) (Z' j) (L i) (L i) = upTo (Z i) (Z' j) (L i) := by simp [rowEq]
    rw [hr]
    by_cases h0 : L i = 0
    · rw [h0]; exact equal_zero _ _ _ _ _
    · cases ha : A i with
      | none => exact absurd (h2 ha) h0
      | some a => cases hb : A' j with
        | none => exact absurd (g2 hb) h0
        | some b => exact equal_some a b _ _ _ _ _ _ h1 (fun c hc => h3 a ha c hc) (fun c hc => g3 b hb c hc)
  · have hr : rowEq (Z i) (Z' j) (L i) (L' j) = false := by simp [rowEq, hl]
    rw [hr]
    exact equal_len _ _ _ _ _ _ _ hl
end

/-- place by place -/
def eqs (L L' : Nat → Nat) (Z Z' : Nat → List Int) (i : Nat) : Bool := rowEq (Z i) (Z' i) (L i) (L' i)

theorem quiet_plus {f : FuncId} {args : Array Value} {w : World} {v : Value} (h : ∀ n, Calls Tryz.prog f args (w.drewN n) fun e w' => e = .returned v ∧ ∃ m, w' = (w.drewN n).drewN m) (n a : Nat) :
    Calls Tryz.prog f args (w.drewN (n + a)) fun e w'' => e = .returned v ∧ ∃ m, w'' = w.drewN (n + m) :=
  (h (n + a)).mono fun _ _ ⟨he, m, hm⟩ => ⟨he, a + m, by rw [hm, drewN_add, Nat.add_assoc]⟩
theorem ret_int {a b : Int} (h : a = b) : Ending.returned (.int .i64 a) = .returned (.int .i64 b) := by rw [h]

set_option maxHeartbeats 2000000 in
theorem differ_any (AA BB : Option Addr) (la lb ca cb : Nat) (A A' : Nat → Option Addr) (L C L' C' : Nat → Nat) (Z Z' : Nat → List Int) (w : World) (H : Rows2 w AA la A L C Z) (H' : Rows2 w BB lb A' L' C' Z') :
    Calls Tryz.prog 6 #[.slice AA la ca, .slice BB lb cb] w fun e w' => e = .returned (.int .i64 (dif (eqs L L' Z Z') la lb)) ∧ ∃ n, w' = w.drewN n := by
  have hla := H.len
  have hlb := H'.len
  unfold maxLen at hla hlb
  have hmin : (min (la : Int) (lb : Int)) = ((min la lb : Nat) : Int) := by omega
  go_enter Tryz.func6, Tryz.ntmps6
  go_wp2
  go_loopw [5, 11] (fun i j wr => ∃ k n : Nat, k ≤ min la lb ∧ j = .int .i64 k ∧ wr = w.drewN n ∧ lst (eqs L L' Z Z') k = none) (fun _ i _ => min la lb - (intOf i).toNat)
  case atStart => exact ⟨0, 0, Nat.zero_le _, rfl, rfl, rfl⟩
  case round =>
    obtain ⟨k, n, hk, rfl, rfl, hu⟩ := hrel
    by_cases hlt : k < min la lb
    · have hka : k < la := by omega
      have hkb : k < lb := by omega
      obtain ⟨a, rfl⟩ : ∃ a, AA = some a := by
        cases h : AA with
        | none => have := H.nil h; omega
        | some a => exact ⟨a, rfl⟩
      obtain ⟨b, rfl⟩ : ∃ b, BB = some b := by
        cases h : BB with
        | none => have := H'.nil h; omega
        | some b => exact ⟨b, rfl⟩
      have g1 : w.cell? (a.add k) = some (.slice (A k) (L k) (C k)) := H.out a rfl k hka
      have g2 : w.cell? (b.add k) = some (.slice (A' k) (L' k) (C' k)) := H'.out b rfl k hkb
      have hx1 : (k : Int) < (la : Int) := by omega
      have hx2 : (k : Int) < (lb : Int) := by omega
      have hx0 : (0 : Int) ≤ (k : Int) := by omega
      have hx3 : (k : Int) < ((min la lb : Nat) : Int) := by omega
      have HR := fun n => row_equal H H' hka hkb n
      have hd1 : lst (eqs L L' Z Z') (k + 1) = none ∨ rowEq (Z k) (Z' k) (L k) (L' k) = false := by
        cases he : rowEq (Z k) (Z' k) (L k) (L' k) with
        | true => exact .inl (lst_next hu he)
        | false => exact .inr rfl
      have hd2 : rowEq (Z k) (Z' k) (L k) (L' k) = false → dif (eqs L L' Z Z') la lb = k := fun he => dif_hit hu he hka hkb
      cases he : rowEq (Z k) (Z' k) (L k) (L' k) with
      | false =>
        have hdd := hd2 he
        rw [he] at HR
        have HRh := Lib.hid HR
        have hddh := Lib.hid hdd
        clear HR hdd hd2 hd1 hu he
        go_wp2
        go_quiet ((go_at_call 9; exact quiet_plus HRh.out _ _))
        go_wp2
        go_ret
        exact ⟨ret_int hddh.out.symm, n + nq, by first | rfl | exact drewN_add w n nq⟩
      | true =>
        have hu' := Lib.hid (lst_next hu he)
        rw [he] at HR
        have HRh := Lib.hid HR
        clear HR hd2 hd1 hu he
        go_wp2
        go_quiet ((go_at_call 9; exact quiet_plus HRh.out _ _))
        go_wp2
        go_roundw
        case rel => exact ⟨k + 1, n + nq, by omega, by go_num, (by first | rfl | exact drewN_add w n nq), hu'.out⟩
        case measure => simp [intOf]; omega
    · have hkm : k = min la lb := by omega
      have hx3 : ¬ (k : Int) < ((min la lb : Nat) : Int) := by omega
      by_cases hne : la = lb
      · have hd : dif (eqs L L' Z Z') la lb = -1 := by
          have : k = la := by omega
          rw [← hne, ← this]
          exact dif_no hu
        have hdh := Lib.hid hd
        have hb : ((la : Int) != (lb : Int)) = false := by simp [hne]
        have hneh := Lib.hid hne
        clear hd hu hne
        go_wp2
        go_ret
        exact ⟨ret_int hdh.out.symm, n, rfl⟩
      · have hd : dif (eqs L L' Z Z') la lb = ((min la lb : Nat) : Int) := by rw [← hkm]; exact dif_end hu hkm hne
        have hdh := Lib.hid hd
        have hb : ((la : Int) != (lb : Int)) = true := by
          have : ¬ ((la : Int) = (lb : Int)) := by omega
          simp [this]
        clear hd hu
        go_wp2
        go_ret
        exact ⟨ret_int hdh.out.symm, n, rfl⟩

theorem cell_stays {w w' : World} {b o : Nat} {v : Value} (h : w.cell? ⟨b, o, none⟩ = some v) (hs : Stays w w') : w'.cell? ⟨b, o, none⟩ = some v := by
  have hlt := lt_of_cell h
  rw [cell_same (w := w) (w' := w') (by rw [hs.2.1 b _ (Array.getElem?_eq_getElem hlt), Array.getElem?_eq_getElem hlt])]
  exact h
theorem Stays.trans {w w1 w2 : World} (a : Stays w w1) (b : Stays w1 w2) : Stays w w2 := ⟨Nat.le_trans a.1 b.1, (fun c ob h => b.2.1 c ob (a.2.1 c ob h)), a.2.2.trans b.2.2⟩
theorem Stays.refl (w : World) : Stays w w := ⟨Nat.le_refl _, (fun _ _ h => h), Go.AE.Quiet.refl w⟩
theorem Stays.drewN (w : World) (n : Nat) : Stays w (w.drewN n) := ⟨Nat.le_refl _, (fun _ _ h => h), Go.AE.Quiet.of_heap rfl rfl rfl⟩
theorem Stays.base {w w' : World} (hs : Stays w w') (hb : glob.Base w) : glob.Base w' := glob.stay w w' hb hs.1 fun c ob _ h => hs.2.1 c ob h

set_option maxHeartbeats 4000000 in
theorem law_any (AA BB : Option Addr) (la lb ca cb : Nat) (A A' : Nat → Option Addr) (L C L' C' : Nat → Nat) (Z Z' : Nat → List Int) (w : World) (hb : glob.Base w)
    (H : ∀ w', Stays w w' → Rows2 w' AA la A L C Z) (H' : ∀ w', Stays w w' → Rows2 w' BB lb A' L' C' Z') :
    Calls Tryz.prog 3 #[.slice AA la ca, .slice BB lb cb] w fun e w' => e = .returned (.bool true) ∧ Stays w w' := by
  have hla := (H w (Stays.refl w)).len
  have hlb := (H' w (Stays.refl w)).len
  unfold maxLen at hla hlb
  have hh := Lib.hid H
  have hh' := Lib.hid H'
  have hbh := Lib.hid hb
  clear H H' hb
  by_cases hbig : 50 < la ∨ 50 < lb
  · by_cases hla2 : 50 < la
    · go_enter Tryz.func3, Tryz.ntmps3
      go_wp2_with (first | (go_at_call 4; with_reducible refine (awake_true w hbh.out).mono ?_; rintro e w1 ⟨rfl, hs1⟩) | (go_at_call 4; refine (awake_true _ (Stays.base hs1 hbh.out)).mono ?_; rintro e w2 ⟨rfl, hs2⟩))
      go_ret
      exact ⟨rfl, hs1.trans hs2⟩
    · have hla3 : la ≤ 50 := by omega
      have hlb3 : 50 < lb := by omega
      clear hbig hla2
      go_enter Tryz.func3, Tryz.ntmps3
      go_wp2_with (first | (go_at_call 4; with_reducible refine (awake_true w hbh.out).mono ?_; rintro e w1 ⟨rfl, hs1⟩) | (go_at_call 4; refine (awake_true _ (Stays.base hs1 hbh.out)).mono ?_; rintro e w2 ⟨rfl, hs2⟩))
      go_ret
      exact ⟨rfl, hs1.trans hs2⟩
  · have hla3 : la ≤ 50 := by omega
    have hlb3 : lb ≤ 50 := by omega
    clear hbig
    go_enter Tryz.func3, Tryz.ntmps3
    go_wp2_with (go_at_call 4; with_reducible refine (awake_true w hbh.out).mono ?_; rintro e w1 ⟨rfl, hs1⟩)
    have hR1 := hh.out w1 hs1
    have hR2 := hh'.out w1 hs1
    have hR1h := Lib.hid hR1
    have hR2h := Lib.hid hR2
    clear hR1 hR2
    go_loopw [5, 6] (fun want i wr => ∃ k n : Nat, k ≤ min la lb ∧ i = .int .i64 k ∧ want = .int .i64 (-1) ∧ wr = w1.drewN n ∧ lst (eqs L L' Z Z') k = none) (fun _ i _ => min la lb - (intOf i).toNat)
    case atStart => exact ⟨0, 0, Nat.zero_le _, rfl, rfl, rfl, rfl⟩
    case round =>
      obtain ⟨k, n, hk, rfl, rfl, rfl, hu⟩ := hrel
      by_cases hlt : k < min la lb
      · have hka : k < la := by omega
        have hkb : k < lb := by omega
        obtain ⟨a, rfl⟩ : ∃ a, AA = some a := by
          cases h : AA with
          | none => have := hR1h.out.nil h; omega
          | some a => exact ⟨a, rfl⟩
        obtain ⟨b, rfl⟩ : ∃ b, BB = some b := by
          cases h : BB with
          | none => have := hR2h.out.nil h; omega
          | some b => exact ⟨b, rfl⟩
        have g1 : w1.cell? (a.add k) = some (.slice (A k) (L k) (C k)) := hR1h.out.out a rfl k hka
        have g2 : w1.cell? (b.add k) = some (.slice (A' k) (L' k) (C' k)) := hR2h.out.out b rfl k hkb
        have hl1 := (hR1h.out.inn k hka).1
        have hl2 := (hR2h.out.inn k hkb).1
        unfold maxLen at hl1 hl2
        have hx1 : (k : Int) < (la : Int) := by omega
        have hx2 : (k : Int) < (lb : Int) := by omega
        have hx0 : (0 : Int) ≤ (k : Int) := by omega
        by_cases hlong : 100 < L k
        · have hlong' : (100 : Int) < (L k : Int) := by omega
          clear hlong
          have huh := Lib.hid hu
          clear hu
          go_wp2
          go_ret
          exact ⟨rfl, hs1.trans (Stays.drewN w1 n)⟩
        · have hs100 : ((L k : Nat) : Int) ≤ 100 := by omega
          clear hlong
          by_cases hlong2 : 100 < L' k
          · have hlong' : (100 : Int) < (L' k : Int) := by omega
            clear hlong2
            have huh := Lib.hid hu
            clear hu
            go_wp2
            go_ret
            exact ⟨rfl, hs1.trans (Stays.drewN w1 n)⟩
          · have hs101 : ((L' k : Nat) : Int) ≤ 100 := by omega
            clear hlong2
            have HR := fun n => row_same hR1h.out hR2h.out hka hkb n
            cases he : rowEq (Z k) (Z' k) (L k) (L' k) with
            | true =>
              have hu' := Lib.hid (lst_next hu he)
              rw [he] at HR
              have HRh := Lib.hid HR
              clear HR hu he
              go_wp2
              go_quiet ((go_at_call 5; exact quiet_plus HRh.out _ _))
              go_wp2
              go_roundw
              case rel => exact ⟨k + 1, n + nq, by omega, by go_num, rfl, (by first | rfl | exact drewN_add w1 n nq), hu'.out⟩
              case measure => simp [intOf]; omega
            | false =>
              have hdh := Lib.hid (show (dif (eqs L L' Z Z') la lb == (k : Int)) = true by rw [dif_hit hu he hka hkb]; simp)
              rw [he] at HR
              have HRh := Lib.hid HR
              clear HR hu he
              go_wp2
              go_quiet ((go_at_call 5; exact quiet_plus HRh.out _ _))
              have HA := Lib.hid (hh.out (w1.drewN (n + nq)) (hs1.trans (Stays.drewN w1 _)))
              have HB := Lib.hid (hh'.out (w1.drewN (n + nq)) (hs1.trans (Stays.drewN w1 _)))
              have HA2 := Lib.hid (fun m => hh.out (w1.drewN (n + nq + m)) (hs1.trans (Stays.drewN w1 _)))
              have hself := Lib.hid (show (dif (eqs L L Z Z) la la == (-1 : Int)) = true by rw [dif_self (eq := eqs L L Z Z) fun i => rowEq_self _ _]; rfl)
              go_wp2_with (first | (go_at_call 6; with_reducible refine (differ_any _ _ la lb ca cb A A' L C L' C' Z Z' _ HA.out HB.out).mono ?_; rintro e w2 ⟨rfl, m, rfl⟩; have hd2 := hdh.out) | (go_at_call 6; with_reducible refine (differ_any _ _ la la ca ca A A L C L C Z Z _ (HA2.out _) (HA2.out _)).mono ?_; rintro e w3 ⟨rfl, m3, rfl⟩; have hd3 := hself.out))
              go_ret
              exact ⟨rfl, hs1.trans (Stays.drewN w1 _)⟩
      · have hkm : k = min la lb := by omega
        have HA := Lib.hid (hh.out (w1.drewN n) (hs1.trans (Stays.drewN w1 _)))
        have HB := Lib.hid (hh'.out (w1.drewN n) (hs1.trans (Stays.drewN w1 _)))
        have HA2 := Lib.hid (fun m => hh.out (w1.drewN (n + m)) (hs1.trans (Stays.drewN w1 _)))
        by_cases hne : la = lb
        · have hdh := Lib.hid (show (dif (eqs L L' Z Z') la lb == (-1 : Int)) = true by
            have : k = la := by omega
            rw [← hne, ← this, dif_no hu]; rfl)
          have hx1 : ¬ ((k : Int) < (la : Int)) := by omega
          have hx2 : ¬ ((k : Int) < (lb : Int)) := by omega
          clear hu hne hlt hkm
          go_wp2_with (fail)
          have hself := Lib.hid (show (dif (eqs L L Z Z) la la == (-1 : Int)) = true by rw [dif_self (eq := eqs L L Z Z) fun i => rowEq_self _ _]; rfl)
          go_wp2_with (first | (go_at_call 6; with_reducible refine (differ_any _ _ la lb ca cb A A' L C L' C' Z Z' _ HA.out HB.out).mono ?_; rintro e w2 ⟨rfl, m, rfl⟩; have hd2 := hdh.out) | (go_at_call 6; with_reducible refine (differ_any _ _ la la ca ca A A L C L C Z Z _ (HA2.out _) (HA2.out _)).mono ?_; rintro e w3 ⟨rfl, m3, rfl⟩; have hd3 := hself.out))
          go_ret
          exact ⟨rfl, hs1.trans (Stays.drewN w1 _)⟩
        · have hdh := Lib.hid (show (dif (eqs L L' Z Z') la lb == (k : Int)) = true by rw [dif_end hu hkm hne]; simp)
          by_cases hll : la < lb
          · have hx1 : ¬ ((k : Int) < (la : Int)) := by omega
            have hx3 : (la : Int) ≤ (k : Int) := by omega
            have hx2 : ((k : Int) < (lb : Int)) := by omega
            clear hu hne hlt hkm hll
            go_wp2_with (fail)
            have hself := Lib.hid (show (dif (eqs L L Z Z) la la == (-1 : Int)) = true by rw [dif_self (eq := eqs L L Z Z) fun i => rowEq_self _ _]; rfl)
            go_wp2_with (first | (go_at_call 6; with_reducible refine (differ_any _ _ la lb ca cb A A' L C L' C' Z Z' _ HA.out HB.out).mono ?_; rintro e w2 ⟨rfl, m, rfl⟩; have hd2 := hdh.out) | (go_at_call 6; with_reducible refine (differ_any _ _ la la ca ca A A L C L C Z Z _ (HA2.out _) (HA2.out _)).mono ?_; rintro e w3 ⟨rfl, m3, rfl⟩; have hd3 := hself.out))
            go_ret
            exact ⟨rfl, hs1.trans (Stays.drewN w1 _)⟩
          · have hx1 : ((k : Int) < (la : Int)) := by omega
            have hx3 : (lb : Int) ≤ (k : Int) := by omega
            have hx2 : ¬ ((k : Int) < (lb : Int)) := by omega
            clear hu hne hlt hkm hll
            go_wp2_with (fail)
            have hself := Lib.hid (show (dif (eqs L L Z Z) la la == (-1 : Int)) = true by rw [dif_self (eq := eqs L L Z Z) fun i => rowEq_self _ _]; rfl)
            go_wp2_with (first | (go_at_call 6; with_reducible refine (differ_any _ _ la lb ca cb A A' L C L' C' Z Z' _ HA.out HB.out).mono ?_; rintro e w2 ⟨rfl, m, rfl⟩; have hd2 := hdh.out) | (go_at_call 6; with_reducible refine (differ_any _ _ la la ca ca A A L C L C Z Z _ (HA2.out _) (HA2.out _)).mono ?_; rintro e w3 ⟨rfl, m3, rfl⟩; have hd3 := hself.out))
            go_ret
            exact ⟨rfl, hs1.trans (Stays.drewN w1 _)⟩
end Go.Proofs.YtikhphdimgcbkaaGreatDoor
