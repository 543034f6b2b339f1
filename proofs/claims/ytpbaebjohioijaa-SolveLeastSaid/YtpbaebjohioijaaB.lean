import Derived.Test.YtpbaebjohioijaaA
import Derived.Deep.QuietTactic
import Derived.BigQuiet
namespace Go.Proofs.Ytpbaebjohioijaa.Lat
open Go.RowKit Go.Proofs.YtpbaebjohioijaaW.PrintWords Go.Proofs.YtpbaebjohioijaaW.PrintLast Go.Proofs.YtpbaebjohioijaaW.PrintMore Go.Proofs.Ytpbaebjohioijaa.PSolveLeast
set_option linter.unusedVariables false
set_option linter.unusedSimpArgs false

/-! ### extreme -/
def exP (o : Int) (side : List Int) (l : Nat) : Bool := hasb o l && (Go.bits .and .u64 (rd side l) o == o)
def ext (o : Int) (side : List Int) : Int × Bool := match (List.range side.length).find? (exP o side) with | some l => ((l : Int), true) | none => (0, false)
theorem ext_some {o : Int} {side : List Int} {k : Nat} (hk : k < side.length) (h0 : ∀ j < k, exP o side j = false) (h1 : exP o side k = true) : ext o side = ((k : Int), true) := by
  unfold ext
  have : (List.range side.length).find? (exP o side) = some k := by
    rw [List.find?_range_eq_some]
    exact ⟨h1, by simpa using hk, fun j hj => by simp [h0 j hj]⟩
  rw [this]
theorem ext_none {o : Int} {side : List Int} (h0 : ∀ j < side.length, exP o side j = false) : ext o side = (0, false) := by
  unfold ext
  have : (List.range side.length).find? (exP o side) = none := by
    rw [List.find?_eq_none]
    intro j hj
    rw [h0 j (List.mem_range.1 hj)]
    decide
  rw [this]
theorem extreme_any (o : Int) {w : World} {b n : Nat} {xs : List Int} (h : RB w b n xs) (hn : n ≤ 8) :
    Calls Try.prog 54 #[.int .u64 o, .slice (some ⟨b, 0, none⟩) n n] w fun e w' => e = .returned (.tuple #[.int .i64 (ext o xs).1, .bool (ext o xs).2]) ∧ w = w' := by
  have HR := Aside0.mk h
  clear h
  go_enter Try.func54, Try.ntmps54
  go_wp2
  go_loopw [10] (fun i wr => ∃ k : Nat, i = .int .i64 k ∧ k ≤ n ∧ Aside0 (∀ j < k, exP o xs j = false) ∧ w = wr) (fun i _ => n - (intOf i).toNat)
  case atStart => exact ⟨0, rfl, Nat.zero_le _, ⟨fun j hj => absurd hj (Nat.not_lt_zero j)⟩, rfl⟩
  case round =>
    obtain ⟨k, rfl, hk, H0, rfl⟩ := hrel
    by_cases hlt : k < n
    · obtain ⟨c0, _⟩ := HR.out.at_ k hlt
      have HH := Aside0.mk (has_any o k (by omega) (by omega) w)
      obtain ⟨y, hy⟩ : ∃ y, rd xs k = y := ⟨_, rfl⟩
      rw [hy] at c0
      obtain ⟨t, ht⟩ : ∃ t, hasb o k = t := ⟨_, rfl⟩
      obtain ⟨z, hz⟩ : ∃ z, Go.bits .and .u64 y o = z := ⟨_, rfl⟩
      have HE : Aside0 (exP o xs k = (t && (z == o))) := ⟨by unfold exP; rw [ht, hy, hz]⟩
      rw [ht] at HH
      clear ht hy
      cases t with
      | false =>
        go_wp2_with (go_at_call 34; refine HH.out.mono ?_; rintro e w' ⟨rfl, rfl⟩)
        go_roundw
        case rel => exact ⟨k + 1, by go_num, by omega, ⟨fun j hj => by
          by_cases e : j = k
          · rw [e, HE.out]; rfl
          · exact H0.out j (by omega)⟩, by first | rfl | trivial⟩
        case measure => simp [intOf]; omega
      | true =>
        by_cases hzo : z = o
        · have hE := HE.out
          have R := Aside0.mk (ext_some (by rw [HR.out.len]; exact hlt) H0.out (by rw [hE, hzo]; simp))
          subst hzo
          clear hE
          go_wp2_with (go_at_call 34; refine HH.out.mono ?_; rintro e w' ⟨rfl, rfl⟩)
          go_ret2
          exact ⟨by rw [R.out]; rfl, rfl⟩
        · have hz2 : (z == o) = false := beq_eq_false_iff_ne.2 hzo
          have hE : Aside0 (exP o xs k = false) := ⟨by rw [HE.out, hz2]; rfl⟩
          clear HE
          go_wp2_with (go_at_call 34; refine HH.out.mono ?_; rintro e w' ⟨rfl, rfl⟩)
          go_roundw
          case rel => exact ⟨k + 1, by go_num, by omega, ⟨fun j hj => by
            by_cases e : j = k
            · rw [e]; exact hE.out
            · exact H0.out j (by omega)⟩, by first | rfl | trivial⟩
          case measure => simp [intOf]; omega
    · have R := Aside0.mk (ext_none (o := o) (side := xs) (fun j hj => H0.out j (by rw [HR.out.len] at hj; omega)))
      go_wp2
      go_ret2
      exact ⟨by rw [R.out]; rfl, rfl⟩
end Go.Proofs.Ytpbaebjohioijaa.Lat
