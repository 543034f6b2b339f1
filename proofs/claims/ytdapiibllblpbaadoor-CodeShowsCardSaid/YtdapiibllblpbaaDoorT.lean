import Derived.Test.YtdapiibllblpbaaDoorS
import Derived.Test.YtdapiibllblpbaaDoorQ4
import Derived.Deep.RegionHeld3
import Derived.Laws.CopyOwn
namespace Go.Proofs.YtdapiibllblpbaaDoor.Code
open Go.RowKit Go.Proofs.YtdapiibllblpbaaDoorW.PrintWords Go.Proofs.YtdapiibllblpbaaDoorW.PrintLast Go.Proofs.YtdapiibllblpbaaDoorW.PrintMore Go.Proofs.YtdapiibllblpbaaDoor.PCodeAnswers
set_option linter.unusedVariables false
set_option linter.unusedSimpArgs false

theorem copySized_any (A : Option Addr) (c : Nat) (l : List S46) (w : World) (hr : Kd.C k46 w A l.length l) (hc : l.length ≤ c) (hl : l.length ≤ 1000000) :
    Calls Tryd.prog 23 #[.slice A l.length c] w fun e w' => ∃ B d, e = .returned (.slice B l.length d) ∧ Kd.R k46 46 w' w.heap.size (fun _ => True) (.slice B l.length d) l ∧ Below w.heap.size w w' := by
  refine (portcullisref00_CopySized.calls A c l l w hr hc (by unfold portcullisref00_CopySized.f; simp; omega)).mono ?_
  rintro e w' ⟨v, rfl, hv, b⟩
  obtain ⟨B, d, rfl⟩ := Kd.R_slice hv
  exact ⟨B, d, rfl, hv, b⟩
theorem copyTexts_any (A : Option Addr) (c : Nat) (l : List ByteArray) (w : World) (hr : Kd.C Kd.string w A l.length l) (hc : l.length ≤ c) (hl : l.length ≤ 1000000) :
    Calls Tryd.prog 24 #[.slice A l.length c] w fun e w' => ∃ B d, e = .returned (.slice B l.length d) ∧ Kd.R Kd.string 9 w' w.heap.size (fun _ => True) (.slice B l.length d) l ∧ Below w.heap.size w w' := by
  refine (portcullisref00_CopyTexts.calls A c l l w hr hc (by unfold portcullisref00_CopyTexts.f; simp; omega)).mono ?_
  rintro e w' ⟨v, rfl, hv, b⟩
  obtain ⟨B, d, rfl⟩ := Kd.R_slice hv
  exact ⟨B, d, rfl, hv, b⟩
theorem copyInts_f (l : List Int) (hl : l.length ≤ 1000000) : portcullisref00_CopyInts.f l = some l := by unfold portcullisref00_CopyInts.f; simp; omega
theorem copyInts_any (A : Option Addr) (c : Nat) (l : List Int) (w : World) (hr : Kd.C (Kd.int .i64) w A l.length l) (hc : l.length ≤ c) (hl : l.length ≤ 1000000) :
    Calls Tryd.prog 25 #[.slice A l.length c] w fun e w' => ∃ B d, e = .returned (.slice B l.length d) ∧ Kd.R (Kd.int .i64) 3 w' w.heap.size (fun _ => True) (.slice B l.length d) l ∧ Below w.heap.size w w' := by
  refine (portcullisref00_CopyInts.calls A c l l w hr hc (copyInts_f l hl)).mono ?_
  rintro e w' ⟨v, rfl, hv, b⟩
  obtain ⟨B, d, rfl⟩ := Kd.R_slice hv
  exact ⟨B, d, rfl, hv, b⟩
theorem wrap64_small (n : Int) (h0 : 0 ≤ n) (h1 : n ≤ 1000000000) : wrap64 n = n := by
  unfold wrap64
  omega
theorem copyCode_run (l : List S42) (hl : l.length ≤ 1000000) (hz : ∀ o ∈ l, o.f8.length ≤ 1000000) : ∀ (n i : Nat), i + n = l.length → ∃ k, portcullisref00_CopyCode.l0 k l (l.take i) i = some l
  | 0, i, h => ⟨1, by
    unfold portcullisref00_CopyCode.l0
    rw [if_neg (by omega), show i = l.length by omega, List.take_length]⟩
  | n + 1, i, h => by
    obtain ⟨k, hk⟩ := copyCode_run l hl hz n (i + 1) (by omega)
    refine ⟨k + 1, ?_⟩
    have hi : i < l.length := by omega
    have hm := hz _ (rd42_mem l i hi)
    have hlt : (l.take i).length < 1256584717458 := by have := List.length_take_le i l; omega
    unfold portcullisref00_CopyCode.l0
    rw [if_pos (by omega), if_pos (by omega), copyInts_f _ hm]
    simp only [Option.bind_some]
    rw [if_pos hlt, wrap64_small _ (by omega) (by omega)]
    have e : l.take i ++ [rd_T42 l i] = l.take (i + 1) := by
      rw [List.take_succ_eq_append_getElem hi]
      congr 2
      unfold rd_T42
      rw [Int.toNat_natCast, List.getD_eq_getElem?_getD, List.getElem?_eq_getElem hi]
      rfl
    rw [show ((i : Int) + 1) = ((i + 1 : Nat) : Int) by omega]
    refine Eq.trans ?_ hk
    rw [← e]
theorem copyCode_any (A : Option Addr) (c : Nat) (l : List S42) (w : World) (hr : Kd.C k42 w A l.length l) (hc : l.length ≤ c) (hl : l.length ≤ 1000000) (hz : ∀ o ∈ l, o.f8.length ≤ 1000000) :
    Calls Tryd.prog 26 #[.slice A l.length c] w fun e w' => ∃ B d, e = .returned (.slice B l.length d) ∧ Kd.S k42 42 w' w.heap.size (fun _ => True) (.slice B l.length d) l ∧ Below w.heap.size w w' := by
  obtain ⟨k, hk⟩ := copyCode_run l hl hz l.length 0 (by omega)
  refine (portcullisref00_CopyCode.calls k A c l l w hr hc hk).mono ?_
  rintro e w' ⟨v, rfl, hv, b⟩
  obtain ⟨B, d, rfl⟩ := Kd.S_slice hv
  exact ⟨B, d, rfl, hv, b⟩
end Go.Proofs.YtdapiibllblpbaaDoor.Code
