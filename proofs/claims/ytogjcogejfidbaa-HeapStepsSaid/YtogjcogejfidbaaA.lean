import Derived.Test.YtogjcogejfidbaaPHeapStepsx4
import Derived.Test.YtogjcogejfidbaaPHeapStepsx5
namespace Go.Proofs.Ytogjcogejfidbaa.Heap
open Go.RowKit Go.Proofs.YtogjcogejfidbaaW.PrintWords Go.Proofs.YtogjcogejfidbaaW.PrintLast Go.Proofs.YtogjcogejfidbaaW.PrintMore Go.Proofs.Ytogjcogejfidbaa.PHeapSteps
set_option linter.unusedVariables false
set_option linter.unusedSimpArgs false

/-! ### (*Heap).of -/
theorem of_neg (h : Addr) (t : Int) (w : World) (ht : t < 0) :
    Calls Try.prog 22 #[.pointer (some h), .int .i64 t] w fun e w' => e = .returned (.pointer none) ∧ w = w' := by
  go_enter Try.func22, Try.ntmps22
  go_wp2
  go_ret
  exact ⟨rfl, rfl⟩

theorem of_ge (h : Addr) (A : Option Addr) (n c : Nat) (t : Int) (w : World) (h0 : w.cell? h = some (.slice A n c)) (ht0 : ¬ t < 0) (ht : (n : Int) ≤ t) :
    Calls Try.prog 22 #[.pointer (some h), .int .i64 t] w fun e w' => e = .returned (.pointer none) ∧ w = w' := by
  go_enter Try.func22, Try.ntmps22
  go_wp2
  go_ret
  exact ⟨rfl, rfl⟩

theorem of_yes (h : Addr) (ab n c : Nat) (t : Int) (w : World) (h0 : w.cell? h = some (.slice (some ⟨ab, 0, none⟩) n c)) (ht0 : ¬ t < 0) (ht : t < n) :
    Calls Try.prog 22 #[.pointer (some h), .int .i64 t] w fun e w' => e = .returned (.pointer (some ⟨ab, t.toNat * 2, none⟩)) ∧ w = w' := by
  go_enter Try.func22, Try.ntmps22
  go_wp2
  go_ret
  refine ⟨?_, rfl⟩
  simp [add_plain]

/-! ### (*Heap).word -/
set_option maxHeartbeats 400000 in
theorem word_neg (h : Addr) (a : Int) (w : World) (ha : a < 1) :
    Calls Try.prog 27 #[.pointer (some h), .int .i64 a] w fun e w' => e = .returned (.tuple #[.int .i64 0, .int .i64 0, .pointer none]) ∧ w = w' := by
  go_enter Try.func27, Try.ntmps27
  go_wp2
  go_ret3
  exact ⟨rfl, rfl⟩

set_option maxHeartbeats 400000 in
theorem word_far (h : Addr) (A : Option Addr) (n c : Nat) (a : Int) (w : World) (h0 : w.cell? h = some (.slice A n c)) (ha : 1 ≤ a) (hm : a ≤ 9223372036854775807) (hn : (n : Int) ≤ (a - 1) / 64) :
    Calls Try.prog 27 #[.pointer (some h), .int .i64 a] w fun e w' => e = .returned (.tuple #[.int .i64 0, .int .i64 0, .pointer none]) ∧ w = w' := by
  have ha' : ¬ a < 1 := by omega
  go_enter Try.func27, Try.ntmps27
  go_wp2_with (go_at_call 22; refine (of_ge _ _ _ _ _ _ h0 (by omega) hn).mono ?_; rintro e w' ⟨rfl, rfl⟩)
  go_ret3
  exact ⟨rfl, rfl⟩

set_option maxHeartbeats 400000 in
theorem word_short (h : Addr) (ab n c : Nat) (A : Option Addr) (m c1 : Nat) (a : Int) (w : World) (h0 : w.cell? h = some (.slice (some ⟨ab, 0, none⟩) n c)) (ha : 1 ≤ a) (hm : a ≤ 9223372036854775807) (hn : (a - 1) / 64 < n)
    (h1 : w.cell? ⟨ab, ((a - 1) / 64).toNat * 2, none⟩ = some (.slice A m c1)) (hk : (m : Int) ≤ (a - 1) % 64) :
    Calls Try.prog 27 #[.pointer (some h), .int .i64 a] w fun e w' => e = .returned (.tuple #[.int .i64 0, .int .i64 0, .pointer none]) ∧ w = w' := by
  have ha' : ¬ a < 1 := by omega
  go_enter Try.func27, Try.ntmps27
  go_wp2_with (go_at_call 22; refine (of_yes _ _ _ _ _ _ h0 (by omega) hn).mono ?_; rintro e w' ⟨rfl, rfl⟩)
  go_ret3
  exact ⟨rfl, rfl⟩

set_option maxHeartbeats 400000 in
theorem word_yes (h : Addr) (ab n c : Nat) (g m c1 : Nat) (a : Int) (w : World) (h0 : w.cell? h = some (.slice (some ⟨ab, 0, none⟩) n c)) (ha : 1 ≤ a) (hm : a ≤ 9223372036854775807) (hn : (a - 1) / 64 < n)
    (h1 : w.cell? ⟨ab, ((a - 1) / 64).toNat * 2, none⟩ = some (.slice (some ⟨g, 0, none⟩) m c1)) (hk : (a - 1) % 64 < (m : Int)) :
    Calls Try.prog 27 #[.pointer (some h), .int .i64 a] w fun e w' => e = .returned (.tuple #[.int .i64 ((a - 1) / 64), .int .i64 ((a - 1) % 64), .pointer (some ⟨g, ((a - 1) % 64).toNat * 2, none⟩)]) ∧ Drawn0 w w' := by
  have ha' : ¬ a < 1 := by omega
  have hk0 : 0 ≤ (a - 1) % 64 := by omega
  go_enter Try.func27, Try.ntmps27
  go_wp2_with (go_at_call 22; refine (of_yes _ _ _ _ _ _ h0 (by omega) hn).mono ?_; rintro e w' ⟨rfl, rfl⟩)
  go_quiet (fail)
  go_wp2
  go_ret3
  exact ⟨by simp [add_plain], by repeat (first | exact Drawn0.refl _ | apply Drawn0.step)⟩

end Go.Proofs.Ytogjcogejfidbaa.Heap
