import Derived.Test.YtogjcogejfidbaaK
namespace Go.Proofs.Ytogjcogejfidbaa.Heap
open Go.RowKit Go.Proofs.YtogjcogejfidbaaW.PrintWords Go.Proofs.YtogjcogejfidbaaW.PrintLast Go.Proofs.YtogjcogejfidbaaW.PrintMore Go.Proofs.Ytogjcogejfidbaa.PHeapSteps
set_option linter.unusedVariables false
set_option linter.unusedSimpArgs false

theorem wf64 {n : Int} (h : (Lit.int .i64 n).wf = true) : -9223372036854775808 ≤ n ∧ n ≤ 9223372036854775807 := by
  simp [Lit.wf, IntKind.min, IntKind.max, IntKind.signed, IntKind.bits] at h
  omega
theorem make1 (x : S65) (s f o : Int) : make [x] 0 s f o =
    if s < 0 ∨ 64 - (x.f0.length : Int) < s then ([x], 0, false) else if s = 0 then ([x], 0, true)
    else ([⟨x.f0 ++ List.replicate s.toNat z46, x.f1 ++ [ob x.f0.length s f o]⟩], 1 + 0 * 64 + (x.f0.length : Int), true) := by
  unfold make ar
  simp

set_option maxHeartbeats 1000000 in
theorem heapFull_walk (A : Option Addr) (c : Nat) (xs : List Int) (w : World) (hr : Kd.C (Kd.int .i64) w A xs.length xs) (hw : ∀ x ∈ xs, (Lit.int .i64 x).wf = true) :
    Calls Try.prog 3 #[.slice A xs.length c] w fun e w' => e = .returned (.bool true) ∧ Below w.heap.size w w' := by
  have hmax := Kd.C_max hr
  have HR' := Aside0.mk hr
  have HW := Aside0.mk hw
  clear hr hw
  by_cases hl : 300 < xs.length
  · go_enter Try.func3, Try.ntmps3
    go_wp2_with fail
    refine (alive w).mono ?_
    rintro e w1 ⟨rfl, b1⟩
    go_wp2
    go_ret
    exact ⟨rfl, b1⟩
  · go_enter Try.func3, Try.ntmps3
    go_wp2_with fail
    refine (alive w).mono ?_
    rintro e w1 ⟨rfl, b1⟩
    have B1 := Aside0.mk b1
    have s1 := b1.size
    clear b1
    go_wp2_with fail
    refine (new_HR 1 w1).mono ?_
    rintro e w2 ⟨rfl, h2, b2⟩
    have e0 : new 1 = [z65] := rfl
    rw [e0] at h2
    have H2 := Aside0.mk h2
    have B2 := Aside0.mk b2
    have s2 := b2.size
    clear h2 b2 e0
    go_wp2
    go_loopw [4, 5, 6] (fun u o i wr => ∃ (k : Nat) (x : S65) (F : Nat → Prop), i = .int .i64 k ∧ k ≤ xs.length ∧ u = .int .i64 x.f0.length ∧ o = .int .i64 x.f1.length ∧ x.f0.length ≤ 64 ∧ x.f1.length ≤ x.f0.length ∧ Aside0 (HR wr w1.heap.size F (w1.heap.size + 1) [x]) ∧ Aside0 (∀ b, F b → w1.heap.size ≤ b) ∧ Below w1.heap.size w1 wr) (fun u o i _ => xs.length - (intOf i).toNat)
    case atStart => exact ⟨0, z65, _, rfl, Nat.zero_le _, rfl, rfl, by decide, by decide, H2, ⟨fun _ h => h⟩, B2.out⟩
    case round =>
      obtain ⟨k, x, F, rfl, hk, rfl, rfl, hx1, hx2, HH, HF, HB⟩ := hrel
      by_cases hlt : k < xs.length
      · obtain ⟨ad, hA, hc⟩ := Kd.at_int (Kd.C_below HR'.out (below_then B1.out s1 HB)) k (by omega) (by omega)
        subst hA
        rw [Int.toNat_natCast] at hc
        obtain ⟨s, hs⟩ : ∃ s, rd xs k = s := ⟨_, rfl⟩
        rw [hs] at hc
        have hb := wf64 (HW.out s (by rw [← hs]; unfold rd; rw [Int.toNat_natCast, List.getD_eq_getElem?_getD, List.getElem?_eq_getElem hlt]; exact List.getElem_mem hlt))
        have hsz := HB.size
        by_cases hno : s < 0 ∨ 64 - (x.f0.length : Int) < s
        · have hm : make [x] 0 s 0 k = ([x], 0, false) := by rw [make1, if_pos hno]
          have ht : (decide (0 ≤ s) && decide (s ≤ 64 - (x.f0.length : Int))) = false := by simp; omega
          have hno' : s < 0 ∨ (0 ≤ s ∧ 64 - (x.f0.length : Int) < s) := by omega
          clear hno
          rcases hno' with h0 | ⟨h0, h1⟩
          all_goals
            go_wp2_with fail
            refine (make_any HH.out hsz 0 s 0 k).mono ?_
            rintro e w3 ⟨rfl, h3, f3⟩
            rw [hm] at h3 ⊢
            have b3 := f3.below (B := w1.heap.size) hsz HF.out
            obtain ⟨ad3, hA3, hc3⟩ := Kd.at_int (Kd.C_below HR'.out (below_then B1.out s1 (HB.trans b3))) k (by omega) (by omega)
            injection hA3 with hA3
            subst hA3
            rw [Int.toNat_natCast, hs] at hc3
            have H3 := Aside0.mk h3
            have B3 := Aside0.mk (HB.trans b3)
            have hF3 : Aside0 (∀ b, (F b ∨ wr.heap.size ≤ b) → w1.heap.size ≤ b) := ⟨fun b hb => by rcases hb with hb | hb; exact HF.out b hb; omega⟩
            clear h3 f3 hm b3 hs
            go_wp2
            go_roundw
            case rel => exact ⟨k + 1, x, _, by go_num, by omega, rfl, rfl, hx1, hx2, H3, hF3, B3.out⟩
            case measure => simp [intOf]; omega
        · have h0 : 0 ≤ s := by omega
          have h1 : s ≤ 64 - (x.f0.length : Int) := by omega
          have ht : (decide (0 ≤ s) && decide (s ≤ 64 - (x.f0.length : Int))) = true := by simp; omega
          by_cases hz : s = 0
          · subst hz
            have hm : make [x] 0 0 0 k = ([x], 0, true) := by rw [make1, if_neg hno, if_pos rfl]
            clear hno
            go_wp2_with fail
            refine (make_any HH.out hsz 0 0 0 k).mono ?_
            rintro e w3 ⟨rfl, h3, f3⟩
            rw [hm] at h3 ⊢
            have b3 := f3.below (B := w1.heap.size) hsz HF.out
            obtain ⟨ad3, hA3, hc3⟩ := Kd.at_int (Kd.C_below HR'.out (below_then B1.out s1 (HB.trans b3))) k (by omega) (by omega)
            injection hA3 with hA3
            subst hA3
            rw [Int.toNat_natCast, hs] at hc3
            have H3 := Aside0.mk h3
            have B3 := Aside0.mk (HB.trans b3)
            have hF3 : Aside0 (∀ b, (F b ∨ wr.heap.size ≤ b) → w1.heap.size ≤ b) := ⟨fun b hb => by rcases hb with hb | hb; exact HF.out b hb; omega⟩
            clear h3 f3 hm b3 hs
            go_wp2
            go_roundw
            case rel => exact ⟨k + 1, x, _, by go_num, by omega, rfl, rfl, hx1, hx2, H3, hF3, B3.out⟩
            case measure => simp [intOf]; omega
          · have hm : make [x] 0 s 0 k = ([(⟨x.f0 ++ List.replicate s.toNat z46, x.f1 ++ [ob x.f0.length s 0 k]⟩ : S65)], 1 + (x.f0.length : Int), true) := by rw [make1, if_neg hno, if_neg hz]; simp
            have hp : 0 < s := by omega
            clear hno hz
            go_wp2_with fail
            refine (make_any HH.out hsz 0 s 0 k).mono ?_
            rintro e w3 ⟨rfl, h3, f3⟩
            rw [hm] at h3 ⊢
            have b3 := f3.below (B := w1.heap.size) hsz HF.out
            obtain ⟨ad3, hA3, hc3⟩ := Kd.at_int (Kd.C_below HR'.out (below_then B1.out s1 (HB.trans b3))) k (by omega) (by omega)
            injection hA3 with hA3
            subst hA3
            rw [Int.toNat_natCast, hs] at hc3
            have H3 := Aside0.mk h3
            have B3 := Aside0.mk (HB.trans b3)
            have hF3 : Aside0 (∀ b, (F b ∨ wr.heap.size ≤ b) → w1.heap.size ≤ b) := ⟨fun b hb => by rcases hb with hb | hb; exact HF.out b hb; omega⟩
            clear h3 f3 hm b3 hs
            go_wp2
            go_roundw
            case rel =>
              refine ⟨k + 1, _, _, by go_num, by omega, ?_, ?_, ?_, ?_, H3, hF3, B3.out⟩
              · simp; omega
              · simp
              · simp; omega
              · simp; omega
            case measure => simp [intOf]; omega
      · obtain rfl : k = xs.length := by omega
        go_wp2_with fail
        refine (words_any HH.out 0).mono ?_
        rintro e w4 ⟨v4, rfl, h4, b4⟩
        have e4 : ar [x] 0 = x := rfl
        rw [e4] at h4
        obtain ⟨A4, c4, rfl⟩ : ∃ A c, v4 = .slice A x.f0.length c := Kd.R_slice h4
        have H4 := Aside0.mk (HH.out.below b4)
        have B4 := Aside0.mk (below_then HB HB.size b4)
        have s4 := B4.out.size
        clear h4 b4 e4
        go_wp2_with fail
        refine (objects_any H4.out 0).mono ?_
        rintro e w5 ⟨v5, rfl, h5, b5⟩
        have e5 : ar [x] 0 = x := rfl
        rw [e5] at h5
        obtain ⟨A5, c5, rfl⟩ : ∃ A c, v5 = .slice A x.f1.length c := Kd.R_slice h5
        have B5 := Aside0.mk (below_then B1.out s1 (below_then B4.out s4 b5))
        clear h5 b5 e5
        go_wp2
        go_ret
        exact ⟨rfl, B5.out⟩
end Go.Proofs.Ytogjcogejfidbaa.Heap
