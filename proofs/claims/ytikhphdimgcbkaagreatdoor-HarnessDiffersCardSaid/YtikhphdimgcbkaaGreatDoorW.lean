/-
  The walks through the law's own code: two lists of lists are held against each other. No condition but that the lists can be read.
-/
import Derived.Test.YtikhphdimgcbkaaGreatDoorProg
import Derived.WalkKit
import Derived.LoopTactic
import Derived.Deep.QuietTactic
import Derived.BigQuiet
import Derived.Deep.LoopGhost
import Derived.Lib.Hide
namespace Go.Proofs.YtikhphdimgcbkaaGreatDoor
open Go Go.RowKit

/-- the first n numbers alike -/
def upTo (X Y : List Int) : Nat → Bool
  | 0 => true
  | n + 1 => upTo X Y n && decide (X.getD n 0 = Y.getD n 0)

theorem upTo_succ {X Y : List Int} {k : Nat} (h : upTo X Y k = true) (he : (X[k]?.getD 0 != Y[k]?.getD 0) = false) : upTo X Y (k + 1) = true := by
  show (upTo X Y k && decide (X.getD k 0 = Y.getD k 0)) = true
  simp at he
  simp [h, he]
theorem upTo_no {X Y : List Int} {k : Nat} (he : (X[k]?.getD 0 != Y[k]?.getD 0) = true) : ∀ L, k < L → upTo X Y L = false
  | 0, h => by omega
  | L + 1, h => by
    show (upTo X Y L && decide (X.getD L 0 = Y.getD L 0)) = false
    by_cases e : k = L
    · subst e
      simp at he
      simp [he]
    · rw [upTo_no he L (by omega)]; rfl
theorem drewN_add (w : World) (a b : Nat) : (w.drewN a).drewN b = w.drewN (a + b) := by simp [World.drewN, Nat.add_assoc]
theorem ret_bool {a b : Bool} (h : a = b) : Ending.returned (.bool a) = .returned (.bool b) := by rw [h]

set_option maxHeartbeats 1000000 in
theorem same_some (a1 a2 : Addr) (L C1 C2 : Nat) (X Y : List Int) (w : World) (hL : L ≤ maxLen) (h1 : ∀ c, c < L → w.cell? (a1.add c) = some (.int .i32 (X.getD c 0))) (h2 : ∀ c, c < L → w.cell? (a2.add c) = some (.int .i32 (Y.getD c 0))) :
    Calls Tryz.prog 5 #[.slice (some a1) L C1, .slice (some a2) L C2] w fun e w' => e = .returned (.bool (upTo X Y L)) ∧ ∃ n, w' = w.drewN n := by
  unfold maxLen at hL
  go_enter Tryz.func5, Tryz.ntmps5
  go_wp2
  go_loopw [5] (fun i wr => ∃ k n : Nat, k ≤ L ∧ i = .int .i64 k ∧ wr = w.drewN n ∧ upTo X Y k = true) (fun i _ => L - (intOf i).toNat)
  case atStart => exact ⟨0, 0, Nat.zero_le _, rfl, rfl, rfl⟩
  case round =>
    obtain ⟨k, n, hk, rfl, rfl, hu⟩ := hrel
    by_cases hlt : k < L
    · have g1 : (w.drewN n).cell? (a1.add k) = some (.int .i32 (X.getD k 0)) := h1 k hlt
      have g2 : (w.drewN n).cell? (a2.add k) = some (.int .i32 (Y.getD k 0)) := h2 k hlt
      have hs : upTo X Y (k + 1) = (upTo X Y k && decide (X.getD k 0 = Y.getD k 0)) := rfl
      have hx1 : (k : Int) < (L : Int) := by omega
      have hx0 : (0 : Int) ≤ (k : Int) := by omega
      go_wp2
      go_quiet (fail)
      go_wp2
      · rename_i he
        go_ret
        exact ⟨ret_bool (upTo_no he L hlt).symm, n + nq, drewN_add w n nq⟩
      · rename_i he
        go_roundw
        case rel => exact ⟨k + 1, n + nq, by omega, by go_num, rfl, upTo_succ hu he⟩
        case measure => simp [intOf]; omega
    · have hkL : k = L := by omega
      go_wp2
      go_ret
      exact ⟨ret_bool (by rw [← hkL, hu]), n, rfl⟩

set_option maxHeartbeats 1000000 in
theorem equal_some (a1 a2 : Addr) (L C1 C2 : Nat) (X Y : List Int) (w : World) (hL : L ≤ maxLen) (h1 : ∀ c, c < L → w.cell? (a1.add c) = some (.int .i32 (X.getD c 0))) (h2 : ∀ c, c < L → w.cell? (a2.add c) = some (.int .i32 (Y.getD c 0))) :
    Calls Tryz.prog 9 #[.slice (some a1) L C1, .slice (some a2) L C2] w fun e w' => e = .returned (.bool (upTo X Y L)) ∧ ∃ n, w' = w.drewN n := by
  unfold maxLen at hL
  go_enter Tryz.func9, Tryz.ntmps9
  go_wp2
  go_loopw [5, 13] (fun i j wr => ∃ k n : Nat, k ≤ L ∧ j = .int .i64 k ∧ wr = w.drewN n ∧ upTo X Y k = true) (fun _ i _ => L - (intOf i).toNat)
  case atStart => exact ⟨0, 0, Nat.zero_le _, rfl, rfl, rfl⟩
  case round =>
    obtain ⟨k, n, hk, rfl, rfl, hu⟩ := hrel
    by_cases hlt : k < L
    · have g1 : (w.drewN n).cell? (a1.add k) = some (.int .i32 (X.getD k 0)) := h1 k hlt
      have g2 : (w.drewN n).cell? (a2.add k) = some (.int .i32 (Y.getD k 0)) := h2 k hlt
      have hx1 : (k : Int) < (L : Int) := by omega
      have hx0 : (0 : Int) ≤ (k : Int) := by omega
      go_wp2
      go_quiet (fail)
      go_wp2
      · rename_i he
        go_ret
        exact ⟨ret_bool (upTo_no he L hlt).symm, n + nq, drewN_add w n nq⟩
      · rename_i he
        go_roundw
        case rel => exact ⟨k + 1, n + nq, by omega, by go_num, rfl, upTo_succ hu he⟩
        case measure => simp [intOf]; omega
    · have hkL : k = L := by omega
      go_wp2
      go_ret
      exact ⟨ret_bool (by rw [← hkL, hu]), n, rfl⟩

/-- the same, of slices of which one is perhaps nil -/
theorem same_zero (A1 A2 : Option Addr) (C1 C2 : Nat) (w : World) : Calls Tryz.prog 5 #[.slice A1 0 C1, .slice A2 0 C2] w fun e w' => e = .returned (.bool true) ∧ ∃ n, w' = w.drewN n := by
  go_enter Tryz.func5, Tryz.ntmps5
  go_wp2
  go_loopw [5] (fun i wr => i = .int .i64 0 ∧ wr = w) (fun i _ => 0)
  case atStart => exact ⟨rfl, rfl⟩
  case round =>
    obtain ⟨rfl, rfl⟩ := hrel
    go_wp2
    go_ret
    exact ⟨rfl, 0, rfl⟩
theorem equal_zero (A1 A2 : Option Addr) (C1 C2 : Nat) (w : World) : Calls Tryz.prog 9 #[.slice A1 0 C1, .slice A2 0 C2] w fun e w' => e = .returned (.bool true) ∧ ∃ n, w' = w.drewN n := by
  go_enter Tryz.func9, Tryz.ntmps9
  go_wp2
  go_loopw [13] (fun i wr => i = .int .i64 0 ∧ wr = w) (fun i _ => 0)
  case atStart => exact ⟨rfl, rfl⟩
  case round =>
    obtain ⟨rfl, rfl⟩ := hrel
    go_wp2
    go_ret
    exact ⟨rfl, 0, rfl⟩
theorem same_len (A1 A2 : Option Addr) (L1 L2 C1 C2 : Nat) (w : World) (h : L1 ≠ L2) : Calls Tryz.prog 5 #[.slice A1 L1 C1, .slice A2 L2 C2] w fun e w' => e = .returned (.bool false) ∧ ∃ n, w' = w.drewN n := by
  have hn : ¬ ((L1 : Int) = (L2 : Int)) := by omega
  have hb : ((L1 : Int) != (L2 : Int)) = true := by simp [hn]
  go_enter Tryz.func5, Tryz.ntmps5
  go_wp2
  go_ret
  exact ⟨rfl, 0, rfl⟩
theorem equal_len (A1 A2 : Option Addr) (L1 L2 C1 C2 : Nat) (w : World) (h : L1 ≠ L2) : Calls Tryz.prog 9 #[.slice A1 L1 C1, .slice A2 L2 C2] w fun e w' => e = .returned (.bool false) ∧ ∃ n, w' = w.drewN n := by
  have hn : ¬ ((L1 : Int) = (L2 : Int)) := by omega
  have hb : ((L1 : Int) != (L2 : Int)) = true := by simp [hn]
  go_enter Tryz.func9, Tryz.ntmps9
  go_wp2
  go_ret
  exact ⟨rfl, 0, rfl⟩
end Go.Proofs.YtikhphdimgcbkaaGreatDoor
