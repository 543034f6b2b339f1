import Derived.Test.YtdapiibllblpbaaDoorB
namespace Go.Proofs.YtdapiibllblpbaaDoor.Code
open Go.RowKit Go.Proofs.YtdapiibllblpbaaDoorW.PrintWords Go.Proofs.YtdapiibllblpbaaDoorW.PrintLast Go.Proofs.YtdapiibllblpbaaDoorW.PrintMore Go.Proofs.YtdapiibllblpbaaDoor.PCodeAnswers
set_option linter.unusedVariables false
set_option linter.unusedSimpArgs false

/-! ### sized -/
def wide (least most : Int) (s : S46) : Bool := decide (s.f1 < least) || decide (s.f1 > most)
theorem clos_sized (least most : Int) (s : S46) (na nb : Nat) (w : World) (ha : w.cell? ⟨na, 0, none⟩ = some (.int .i64 least)) (hn : w.cell? ⟨nb, 0, none⟩ = some (.int .i64 most)) :
    Calls Tryd.prog 56 #[.agg #[.string s.f0, .int .i64 s.f1], .pointer (some ⟨na, 0, none⟩), .pointer (some ⟨nb, 0, none⟩)] w fun e w' => e = .returned (.bool (wide least most s)) ∧ Below w.heap.size w w' := by
  have hb := below_alloc (Below.refl w.heap.size w) (.cells #[.string s.f0, .int .i64 s.f1] 46)
  have HB := Aside0.mk hb
  have c1 : (w.alloc (.cells #[.string s.f0, .int .i64 s.f1] 46)).cell? ⟨w.heap.size, 1, none⟩ = some (.int .i64 s.f1) := blk_cell (blk_new w _) 1
  have ha1 := cell_below ha hb
  have hn1 := cell_below hn hb
  clear hb ha hn
  by_cases h : s.f1 < least
  · have e : wide least most s = true := by unfold wide; rw [decide_eq_true h]; rfl
    rw [e]
    clear e
    go_enter Tryd.func56, Tryd.ntmps56
    go_wp2_with fail
    go_ret
    exact ⟨rfl, HB.out⟩
  · have e : wide least most s = decide (s.f1 > most) := by unfold wide; rw [decide_eq_false h]; rfl
    rw [e]
    clear e
    go_enter Tryd.func56, Tryd.ntmps56
    go_wp2_with fail
    go_ret
    exact ⟨rfl, HB.out⟩
theorem index_sized (least most : Int) (na nb : Nat) (A : Option Addr) (c : Nat) (zs : List S46) (w : World) (ha : w.cell? ⟨na, 0, none⟩ = some (.int .i64 least)) (hn : w.cell? ⟨nb, 0, none⟩ = some (.int .i64 most)) (hr : Kd.C k46 w A zs.length zs) (hl : zs.length ≤ 1000000) :
    Calls Tryd.prog 63 #[.slice A zs.length c, .func (.func 56) #[] #[.pointer (some ⟨na, 0, none⟩), .pointer (some ⟨nb, 0, none⟩)]] w fun e w' => (∃ m : Int, e = .returned (.int .i64 m) ∧ decide (0 ≤ m) = zs.any (wide least most)) ∧ Below w.heap.size w w' := by
  have HA := Aside0.mk ha
  have HN := Aside0.mk hn
  have HR := Aside0.mk hr
  clear ha hn hr
  go_enter Tryd.func63, Tryd.ntmps63
  go_wp2
  go_loopw [8] (fun i wr => ∃ k : Nat, i = .int .i64 k ∧ k ≤ zs.length ∧ Aside0 (∀ j : Nat, j < k → wide least most (rd_T46 zs j) = false) ∧ Aside0 (Below w.heap.size w wr)) (fun i _ => zs.length - (intOf i).toNat)
  case atStart => exact ⟨0, rfl, Nat.zero_le _, ⟨fun j hj => absurd hj (Nat.not_lt_zero j)⟩, ⟨Below.refl _ _⟩⟩
  case round =>
    obtain ⟨k, rfl, hk, H0, HB⟩ := hrel
    obtain ⟨wi, rfl⟩ : ∃ wi : World, wi = wr := ⟨_, rfl⟩
    by_cases hlt : k < zs.length
    · obtain ⟨ad, eA, c0, c1⟩ := at_T46 (Kd.C_below HR.out HB.out) k (by omega) (by omega)
      subst eA
      rw [Int.toNat_natCast] at c0 c1
      obtain ⟨z, hz⟩ : ∃ z, rd_T46 zs k = z := ⟨_, rfl⟩
      rw [hz] at c0 c1
      have HC := Aside0.mk (clos_sized least most z na nb wi (cell_below HA.out HB.out) (cell_below HN.out HB.out))
      have HZ := Aside0.mk hz
      clear hz
      obtain ⟨t, ht⟩ : ∃ t, wide least most z = t := ⟨_, rfl⟩
      have HT := Aside0.mk ht
      rw [ht] at HC
      clear ht
      cases t with
      | false =>
        go_wp2_with fail
        refine HC.out.mono ?_
        rintro e w2 ⟨rfl, b2⟩
        have B2 := Aside0.mk (below_then HB.out HB.out.size b2)
        clear b2
        go_wp2_with fail
        go_roundw
        case rel => exact ⟨k + 1, by go_num, by omega, ⟨fun j hj => by
          by_cases e : j = k
          · rw [e, HZ.out, HT.out]
          · exact H0.out j (by omega)⟩, B2⟩
        case measure => simp [intOf]; omega
      | true =>
        go_wp2_with fail
        refine HC.out.mono ?_
        rintro e w2 ⟨rfl, b2⟩
        have B2 := Aside0.mk (below_then HB.out HB.out.size b2)
        clear b2
        go_wp2_with fail
        go_ret
        refine ⟨⟨(k : Int), rfl, ?_⟩, B2.out⟩
        have : (zs.any (wide least most)) = true := by
          rw [List.any_eq_true]
          refine ⟨zs[k], List.getElem_mem hlt, ?_⟩
          have hz := HZ.out
          unfold rd_T46 at hz
          rw [List.getD_eq_getElem?_getD] at hz
          simp [hlt] at hz
          rw [hz, HT.out]
        rw [this]
        simp
    · go_wp2_with fail
      go_ret
      refine ⟨⟨(-1 : Int), rfl, ?_⟩, HB.out⟩
      have : (zs.any (wide least most)) = false := by
        rw [List.any_eq_false]
        intro z hz
        obtain ⟨i, hi, rfl⟩ := List.getElem_of_mem hz
        have := H0.out i (by omega)
        unfold rd_T46 at this
        rw [List.getD_eq_getElem?_getD] at this
        simp [hi] at this
        simp [this]
      rw [this]
      decide
theorem any_sized (least most : Int) (na nb : Nat) (A : Option Addr) (c : Nat) (zs : List S46) (w : World) (ha : w.cell? ⟨na, 0, none⟩ = some (.int .i64 least)) (hn : w.cell? ⟨nb, 0, none⟩ = some (.int .i64 most)) (hr : Kd.C k46 w A zs.length zs) (hl : zs.length ≤ 1000000) :
    Calls Tryd.prog 55 #[.slice A zs.length c, .func (.func 56) #[] #[.pointer (some ⟨na, 0, none⟩), .pointer (some ⟨nb, 0, none⟩)]] w fun e w' => e = .returned (.bool (zs.any (wide least most))) ∧ Below w.heap.size w w' := by
  have H := Aside0.mk (index_sized least most na nb A c zs w ha hn hr hl)
  clear ha hn hr
  go_enter Tryd.func55, Tryd.ntmps55
  go_wp2_with fail
  refine H.out.mono ?_
  rintro e w' ⟨⟨m, rfl, hm⟩, b⟩
  have HM := Aside0.mk hm
  have B := Aside0.mk b
  clear hm b
  go_wp2_with fail
  go_ret
  exact ⟨by rw [← HM.out]; rfl, B.out⟩
def sizedM (l : List S46) (count least most : Int) : Bool := decide ((l.length : Int) ≤ count) && !l.any (wide least most)
theorem sized_any (A : Option Addr) (c : Nat) (zs : List S46) (count least most : Int) (w : World) (hr : Kd.C k46 w A zs.length zs) (hl : zs.length ≤ 1000000) :
    Calls Tryd.prog 44 #[.slice A zs.length c, .int .i64 count, .int .i64 least, .int .i64 most] w fun e w' => e = .returned (.bool (sizedM zs count least most)) ∧ Below w.heap.size w w' := by
  have hb := below_alloc (Below.refl w.heap.size w) (.cells #[.int .i64 least] 3)
  have hb2 := below_alloc hb (.cells #[.int .i64 most] 3)
  have HB := Aside0.mk hb2
  have e1 : (w.alloc (.cells #[.int .i64 least] 3)).heap.size = w.heap.size + 1 := by simp
  have c2 : ((w.alloc (.cells #[.int .i64 least] 3)).alloc (.cells #[.int .i64 most] 3)).cell? ⟨w.heap.size + 1, 0, none⟩ = some (.int .i64 most) := by
    have := blk_cell (blk_new (w.alloc (.cells #[.int .i64 least] 3)) (.cells #[.int .i64 most] 3)) 0
    rw [e1] at this
    exact this
  have c1 : ((w.alloc (.cells #[.int .i64 least] 3)).alloc (.cells #[.int .i64 most] 3)).cell? ⟨w.heap.size, 0, none⟩ = some (.int .i64 least) :=
    cell_below (w := w.alloc (.cells #[.int .i64 least] 3)) (blk_cell (blk_new w _) 0) (below_alloc (Below.refl _ _) _)
  have H := Aside0.mk (any_sized least most w.heap.size (w.heap.size + 1) A c zs _ c1 c2 (Kd.C_below hr hb2) hl)
  clear hr hb hb2 c1 c2
  by_cases h : (zs.length : Int) ≤ count
  · have e : sizedM zs count least most = !zs.any (wide least most) := by unfold sizedM; rw [decide_eq_true h]; rfl
    rw [e]
    clear e
    go_enter Tryd.func44, Tryd.ntmps44
    go_wp2_with fail
    refine H.out.mono ?_
    rintro e w' ⟨rfl, b⟩
    have B := Aside0.mk (below_then HB.out HB.out.size b)
    clear b
    go_wp2_with fail
    go_ret
    exact ⟨rfl, B.out⟩
  · have e : sizedM zs count least most = false := by unfold sizedM; rw [decide_eq_false h]; rfl
    rw [e]
    clear e
    go_enter Tryd.func44, Tryd.ntmps44
    go_wp2_with fail
    go_ret
    exact ⟨rfl, HB.out⟩
end Go.Proofs.YtdapiibllblpbaaDoor.Code
