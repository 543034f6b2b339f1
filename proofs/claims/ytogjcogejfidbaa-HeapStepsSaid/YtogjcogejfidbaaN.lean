import Derived.Test.YtogjcogejfidbaaM
import Derived.StillTailTactics
namespace Go.Proofs.Ytogjcogejfidbaa.Heap
open Go.RowKit Go.Proofs.YtogjcogejfidbaaW.PrintWords Go.Proofs.YtogjcogejfidbaaW.PrintLast Go.Proofs.YtogjcogejfidbaaW.PrintMore Go.Proofs.Ytogjcogejfidbaa.PHeapSteps
set_option linter.unusedVariables false
set_option linter.unusedSimpArgs false

theorem below_alloc' {B : Nat} {w W : World} (h : Below B w W) (hB : B ≤ w.heap.size) (o : Obj) : Below B w (W.alloc o) := h.alloc (Nat.le_trans hB h.size) o

/-- The end of the law, from the loop's end on. -/
def KeepsRel (w1 wr : World) : Prop := ∃ (A : List S65) (F : Nat → Prop), HR wr w1.heap.size F (w1.heap.size + 1) A ∧ (∀ b, F b → w1.heap.size ≤ b) ∧ Below w1.heap.size w1 wr

set_option maxHeartbeats 1000000 in
theorem heapKeeps_walk (A : Option Addr) (c : Nat) (xs : List S40) (a b v u : Int) (w : World) (hr : Kd.C k40 w A xs.length xs) (hw : ∀ x ∈ xs, G40 x) (ha : (Lit.int .i64 a).wf = true) (hb : (Lit.int .i64 b).wf = true) (_hv : (Lit.int .i64 v).wf = true) (_hu : (Lit.int .i64 u).wf = true) :
    Calls Try.prog 6 #[.slice A xs.length c, .int .i64 a, .int .i64 b, .int .i64 v, .int .i64 u] w fun e w' => e = .returned (.bool true) ∧ Below w.heap.size w w' := by
  have hmax := Kd.C_max hr
  have HC := Aside0.mk hr
  have ha := (wf64 ha).2
  have hb := (wf64 hb).2
  clear hr hw
  by_cases hl : 200 < xs.length
  · go_enter Try.func6, Try.ntmps6
    go_wp2_with fail
    refine (alive w).mono ?_
    rintro e w1 ⟨rfl, b1⟩
    go_wp2
    go_ret
    exact ⟨rfl, b1⟩
  · by_cases hab : a = b
    · have hd : (a == b) = true := beq_iff_eq.2 hab
      clear hab
      go_enter Try.func6, Try.ntmps6
      go_wp2_with fail
      refine (alive w).mono ?_
      rintro e w1 ⟨rfl, b1⟩
      go_wp2
      go_ret
      exact ⟨rfl, b1⟩
    · have hd : (a == b) = false := beq_eq_false_iff_ne.2 hab
      have HAB := Aside0.mk hab
      clear hab
      go_enter Try.func6, Try.ntmps6
      go_wp2_with fail
      refine (alive w).mono ?_
      rintro e w1 ⟨rfl, b1⟩
      have B1 := Aside0.mk b1
      have s1 := b1.size
      clear b1
      go_wp2_with fail
      refine (new_HR 4 w1).mono ?_
      rintro e w2 ⟨rfl, h2, b2⟩
      have H2 : Aside0 (KeepsRel w1 w2) := ⟨_, _, h2, fun _ h => h, b2⟩
      clear h2 b2
      go_wp2
      go_loopw [12] (fun i wr => ∃ (k : Nat), i = .int .i64 k ∧ k ≤ xs.length ∧ Aside0 (KeepsRel w1 wr)) (fun i _ => xs.length - (intOf i).toNat)
      case atStart => exact ⟨0, rfl, Nat.zero_le _, H2⟩
      case round =>
        obtain ⟨k, rfl, hk, HK⟩ := hrel
        obtain ⟨A', F, HH0, HF, HB0⟩ := HK.out
        have HB := Aside0.mk HB0
        have HH := Aside0.mk HH0
        have hsz := HB0.size
        clear HH0 HB0
        by_cases hlt : k < xs.length
        · obtain ⟨ad, hA, c0, c1, c2, c3, c4⟩ := at_T40 (Kd.C_below HC.out (below_then B1.out s1 HB.out)) k (by omega) (by omega)
          subst hA
          rw [Int.toNat_natCast] at c0 c1 c2 c3 c4
          obtain ⟨x, hx⟩ : ∃ x, rd_T40 xs k = x := ⟨_, rfl⟩
          rw [hx] at c0 c1 c2 c3 c4
          clear hx
          by_cases h1 : x.f0 = 1
          · have hd1 : (x.f0 == 1) = true := beq_iff_eq.2 h1
            clear h1
            go_wp2
            go_still_tail 21, (by kernel_rfl)
            go_wp2_with fail
            refine (make_any (w := wr.drew) (HH.out.below (below_drew (Below.refl _ _))) hsz x.f1 x.f2 x.f3 x.f4).mono ?_
            rintro e w3 ⟨rfl, h3, f3⟩
            have b3 := f3.below (B := w1.heap.size) hsz HF
            have H3 : Aside0 (KeepsRel w1 w3) := ⟨_, _, h3, fun b hb => by
              rcases hb with hb | hb
              · exact HF b hb
              · exact Nat.le_trans hsz hb, HB.out.drew.trans b3⟩
            clear h3 f3 b3
            go_wp2
            go_roundw
            case rel => exact ⟨k + 1, by go_num, by omega, H3⟩
            case measure => simp [intOf]; omega
          · have hd1 : (x.f0 == 1) = false := beq_eq_false_iff_ne.2 h1
            clear h1
            go_wp2
            go_roundw
            case rel => exact ⟨k + 1, by go_num, by omega, HK⟩
            case measure => simp [intOf]; omega
        · have HH := Aside0.mk HH.out.bound
          have HF := Aside0.mk (show ∀ b, (F b ∧ b < wr.heap.size) → w1.heap.size ≤ b from fun b hb => HF b hb.1)
          obtain ⟨y, hy⟩ : ∃ y, load A' b = y := ⟨_, rfl⟩
          obtain ⟨r, hr⟩ : ∃ r, store A' a ⟨v, u⟩ = r := ⟨_, rfl⟩
          have HL : Aside0 (load r.1 b = y) := ⟨by rw [← hr, load_store A' a b _ HAB.out, hy]⟩
          have HT : Aside0 (r.2 = true → load r.1 a = (⟨v, u⟩, true)) := ⟨fun h => by rw [← hr] at h ⊢; exact load_stored A' a _ h⟩
          have HN : Aside0 (r.2 = false → (load r.1 a).2 = false) := ⟨fun h => by rw [← hr] at h ⊢; exact load_none A' a _ h⟩
          have HY := Aside0.mk hy
          have HRR := Aside0.mk hr
          obtain ⟨⟨y0, y1⟩, yb⟩ := y
          obtain ⟨R, rb⟩ := r
          clear hy hr
          go_wp2_with fail
          refine (load_any HH.out b hb).mono ?_
          rintro e w4 ⟨rfl, b4⟩
          rw [HY.out]
          have B4 := Aside0.mk (below_alloc b4 (.cells #[.int .i64 y0, .int .i64 y1] 46))
          have H4 := Aside0.mk (HH.out.below B4.out)
          have s4 := b4.size
          clear b4
          go_wp2_with fail
          refine (store_any H4.out a ha ⟨v, u⟩).mono ?_
          rintro e w5 ⟨rfl, h5, f5⟩
          rw [HRR.out] at h5 ⊢
          have H5 := Aside0.mk h5
          have F5 := Aside0.mk f5
          have s5 := f5.size
          simp at s5
          have C4 := Aside0.mk (blk_new w4 (.cells #[.int .i64 y0, .int .i64 y1] 46))
          have B5 := Aside0.mk ((below_then HB.out hsz B4.out).trans (f5.below (B := w1.heap.size) (by simp; omega) HF.out))
          have C5 := Aside0.mk (f5.blk C4.out (fun h => by omega))
          clear h5 f5
          cases rb with
          | false =>
            go_wp2_with fail
            refine (load_any H5.out a ha).mono ?_
            rintro e w6 ⟨rfl, b6⟩
            rw [HN.out (by simp)]
            have B6 := Aside0.mk (below_then B1.out s1 (below_then B5.out (by omega) b6))
            clear b6
            go_wp2
            go_ret
            exact ⟨rfl, below_alloc' B6.out (by omega) _⟩
          | true =>
            have hT := HT.out (by simp)
            have HT2 := Aside0.mk hT
            clear hT
            go_wp2_with fail
            refine (load_any H5.out b hb).mono ?_
            rintro e w6 ⟨rfl, b6⟩
            have hl6 : load R b = (⟨y0, y1⟩, yb) := HL.out
            rw [hl6]
            have B6 := Aside0.mk (below_alloc b6 (.cells #[.int .i64 y0, .int .i64 y1] 46))
            have H6 := Aside0.mk (H5.out.below B6.out)
            have s6 := b6.size
            have C6 := Aside0.mk (blk_new w6 (.cells #[.int .i64 y0, .int .i64 y1] 46))
            have BB6 := Aside0.mk (below_then B5.out (by omega) B6.out)
            clear b6 hl6
            go_wp2_with fail
            refine (load_any H6.out a ha).mono ?_
            rintro e w7 ⟨rfl, b7⟩
            rw [HT2.out]
            have s7 := b7.size
            simp at s7
            have BB7 := Aside0.mk (below_then BB6.out (by simp; omega) b7)
            have hk6 := blk_below C6.out b7
            have hk4 := blk_below (blk_below C5.out B6.out) b7
            have hk7 := blk_new w7 (.cells #[.int .i64 v, .int .i64 u] 46)
            have x0 : w7.cell? ⟨w6.heap.size, 0, none⟩ = some (.int .i64 y0) := blk_cell hk6 0
            have x1 : w7.cell? ⟨w6.heap.size, 1, none⟩ = some (.int .i64 y1) := blk_cell hk6 1
            have x2 : w7.cell? ⟨w4.heap.size, 0, none⟩ = some (.int .i64 y0) := blk_cell hk4 0
            have x3 : w7.cell? ⟨w4.heap.size, 1, none⟩ = some (.int .i64 y1) := blk_cell hk4 1
            have l4 := blk_lt hk4
            have l6 := blk_lt hk6
            clear hk6 hk4 hk7 b7
            go_wp2
            go_ret
            exact ⟨rfl, below_alloc' (below_then B1.out s1 BB7.out) (Nat.le_refl _) _⟩
end Go.Proofs.Ytogjcogejfidbaa.Heap
