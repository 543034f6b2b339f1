import Derived.Test.YtdapiibllblpbaaDoorA
import Derived.Test.YtdapiibllblpbaaDoorQ2
import Derived.Test.YtdapiibllblpbaaDoorFoot
namespace Go.Proofs.YtdapiibllblpbaaDoor.Code
open Go.RowKit Go.Proofs.YtdapiibllblpbaaDoorW.PrintWords Go.Proofs.YtdapiibllblpbaaDoorW.PrintLast Go.Proofs.YtdapiibllblpbaaDoorW.PrintMore Go.Proofs.YtdapiibllblpbaaDoor.PCodeAnswers
set_option linter.unusedVariables false
set_option linter.unusedSimpArgs false

/-! ### below -/
def outside (most n : Int) : Bool := decide (n < 0) || decide (n ≥ most)
theorem below_any (most : Int) (l : List Int) : below most l = !(l.any (outside most)) := by
  unfold below outside
  rw [List.not_any_eq_all_not]
  congr 1
  funext n
  by_cases h : 0 ≤ n <;> by_cases h2 : n < most <;> simp [h, h2] <;> omega
theorem blk_cell1 {w : World} {b : Nat} {vs : Array Value} {k : Nat} {d} (h : w.heap[b]? = some (.cells vs k d)) (j : Nat) : w.cell? ⟨b, j, none⟩ = vs[j]? := by
  simp [World.cell?, h]
theorem clos_below (most n : Int) (nb : Nat) (w : World) (hn : w.cell? ⟨nb, 0, none⟩ = some (.int .i64 most)) :
    Calls Tryd.prog 54 #[.int .i64 n, .pointer (some ⟨nb, 0, none⟩)] w fun e w' => e = .returned (.bool (outside most n)) ∧ w = w' := by
  by_cases h : n < 0
  · have e : outside most n = true := by unfold outside; rw [decide_eq_true h]; rfl
    rw [e]
    clear e
    go_enter Tryd.func54, Tryd.ntmps54
    go_wp2_with fail
    go_ret
    exact ⟨rfl, rfl⟩
  · have e : outside most n = decide (n ≥ most) := by unfold outside; rw [decide_eq_false h]; rfl
    rw [e]
    clear e
    go_enter Tryd.func54, Tryd.ntmps54
    go_wp2_with fail
    go_ret
    exact ⟨rfl, rfl⟩
theorem cell_below {w w' : World} {nb : Nat} {v : Value} (h : w.cell? ⟨nb, 0, none⟩ = some v) (b : Below w.heap.size w w') : w'.cell? ⟨nb, 0, none⟩ = some v :=
  (b.cell (World.block_lt_of_cell? w _ h)).trans h
theorem index_below (most : Int) (nb : Nat) (A : Option Addr) (c : Nat) (zs : List Int) (w : World) (hn : w.cell? ⟨nb, 0, none⟩ = some (.int .i64 most)) (hr : Kd.C (Kd.int .i64) w A zs.length zs) (hl : zs.length ≤ 1000000) :
    Calls Tryd.prog 57 #[.slice A zs.length c, .func (.func 54) #[] #[.pointer (some ⟨nb, 0, none⟩)]] w fun e w' => (∃ m : Int, e = .returned (.int .i64 m) ∧ decide (0 ≤ m) = zs.any (outside most)) ∧ Below w.heap.size w w' := by
  have HN := Aside0.mk hn
  have HR := Aside0.mk hr
  clear hn hr
  go_enter Tryd.func57, Tryd.ntmps57
  go_wp2
  go_loopw [8] (fun i wr => ∃ k : Nat, i = .int .i64 k ∧ k ≤ zs.length ∧ Aside0 (∀ j < k, outside most (rd zs j) = false) ∧ Aside0 (Below w.heap.size w wr)) (fun i _ => zs.length - (intOf i).toNat)
  case atStart => exact ⟨0, rfl, Nat.zero_le _, ⟨fun j hj => absurd hj (Nat.not_lt_zero j)⟩, ⟨Below.refl _ _⟩⟩
  case round =>
    obtain ⟨k, rfl, hk, H0, HB⟩ := hrel
    obtain ⟨wi, rfl⟩ : ∃ wi : World, wi = wr := ⟨_, rfl⟩
    by_cases hlt : k < zs.length
    · obtain ⟨ad, eA, c0⟩ := Kd.at_int (Kd.C_below HR.out HB.out) k (by omega) (by omega)
      subst eA
      rw [Int.toNat_natCast] at c0
      obtain ⟨z, hz⟩ : ∃ z, rd zs k = z := ⟨_, rfl⟩
      rw [hz] at c0
      have HC := Aside0.mk (clos_below most z nb wi (cell_below HN.out HB.out))
      have HZ := Aside0.mk hz
      clear hz
      obtain ⟨t, ht⟩ : ∃ t, outside most z = t := ⟨_, rfl⟩
      have HT := Aside0.mk ht
      rw [ht] at HC
      clear ht
      cases t with
      | false =>
        go_wp2_with fail
        refine HC.out.mono ?_
        rintro e w2 ⟨rfl, rfl⟩
        go_wp2_with fail
        go_roundw
        case rel => exact ⟨k + 1, by go_num, by omega, ⟨fun j hj => by
          by_cases e : j = k
          · rw [e, HZ.out, HT.out]
          · exact H0.out j (by omega)⟩, HB⟩
        case measure => simp [intOf]; omega
      | true =>
        go_wp2_with fail
        refine HC.out.mono ?_
        rintro e w2 ⟨rfl, rfl⟩
        go_wp2_with fail
        go_ret
        refine ⟨⟨(k : Int), rfl, ?_⟩, HB.out⟩
        have : (zs.any (outside most)) = true := by
          rw [List.any_eq_true]
          refine ⟨zs[k], List.getElem_mem hlt, ?_⟩
          have hz := HZ.out
          unfold rd at hz
          rw [List.getD_eq_getElem?_getD] at hz
          simp [hlt] at hz
          rw [hz, HT.out]
        rw [this]
        simp
    · go_wp2_with fail
      go_ret
      refine ⟨⟨(-1 : Int), rfl, ?_⟩, HB.out⟩
      have : (zs.any (outside most)) = false := by
        rw [List.any_eq_false]
        intro z hz
        obtain ⟨i, hi, rfl⟩ := List.getElem_of_mem hz
        have := H0.out i (by omega)
        unfold rd at this
        rw [List.getD_eq_getElem?_getD] at this
        simp [hi] at this
        simp [this]
      rw [this]
      decide
theorem any_below (most : Int) (nb : Nat) (A : Option Addr) (c : Nat) (zs : List Int) (w : World) (hn : w.cell? ⟨nb, 0, none⟩ = some (.int .i64 most)) (hr : Kd.C (Kd.int .i64) w A zs.length zs) (hl : zs.length ≤ 1000000) :
    Calls Tryd.prog 46 #[.slice A zs.length c, .func (.func 54) #[] #[.pointer (some ⟨nb, 0, none⟩)]] w fun e w' => e = .returned (.bool (zs.any (outside most))) ∧ Below w.heap.size w w' := by
  have H := Aside0.mk (index_below most nb A c zs w hn hr hl)
  clear hn hr
  go_enter Tryd.func46, Tryd.ntmps46
  go_wp2_with fail
  refine H.out.mono ?_
  rintro e w' ⟨⟨m, rfl, hm⟩, b⟩
  have HM := Aside0.mk hm
  have B := Aside0.mk b
  clear hm b
  go_wp2_with fail
  go_ret
  exact ⟨by rw [← HM.out]; rfl, B.out⟩
theorem below_then {B : Nat} {w w1 w2 : World} (h : Below B w w1) (hB : B ≤ w1.heap.size) (h2 : Below w1.heap.size w1 w2) : Below B w w2 :=
  h.trans (h2.mono hB)
theorem below_list (most : Int) (A : Option Addr) (c : Nat) (zs : List Int) (w : World) (hr : Kd.C (Kd.int .i64) w A zs.length zs) (hl : zs.length ≤ 1000000) :
    Calls Tryd.prog 43 #[.int .i64 most, .slice A zs.length c] w fun e w' => e = .returned (.bool (below most zs)) ∧ Below w.heap.size w w' := by
  have hb := below_alloc (Below.refl w.heap.size w) (.cells #[.int .i64 most] 3)
  have HB := Aside0.mk hb
  have H := Aside0.mk (any_below most w.heap.size A c zs (w.alloc (.cells #[.int .i64 most] 3)) (blk_cell (blk_new w _) 0) (Kd.C_below hr hb) hl)
  clear hr hb
  go_enter Tryd.func43, Tryd.ntmps43
  go_wp2_with fail
  refine H.out.mono ?_
  rintro e w' ⟨rfl, b⟩
  have B := Aside0.mk (below_then HB.out HB.out.size b)
  clear b
  go_wp2_with fail
  go_ret
  exact ⟨by rw [below_any]; rfl, B.out⟩
end Go.Proofs.YtdapiibllblpbaaDoor.Code
