import Derived.Test.YtdildjgkjmoihaaI
import Derived.Deep.RegionHeld3
namespace Go.Proofs.Ytdildjgkjmoihaa.Latch
open Go.RowKit Go.Proofs.YtdildjgkjmoihaaW.PrintWords Go.Proofs.YtdildjgkjmoihaaW.PrintLast Go.Proofs.YtdildjgkjmoihaaW.PrintMore Go.Proofs.Ytdildjgkjmoihaa.PLatchSteps
set_option linter.unusedVariables false
set_option linter.unusedSimpArgs false

/-- The table and the array that says the same. -/
structure OR (w1 w : World) (hb ab bw : Nat) (xs : List Int) : Prop where
  tr : TR w1 w hb ab xs
  wbk : w.heap[bw]? = some (.cells (nums .i64 xs).toArray 43 (0, 0))
  len : xs.length = 8
  ne1 : bw ≠ ab
  ne2 : bw ≠ hb
  bw1 : w1.heap.size ≤ bw
theorem OR.below {w1 w w' : World} {hb ab bw : Nat} {xs : List Int} (h : OR w1 w hb ab bw xs) (hb' : Below w.heap.size w w') : OR w1 w' hb ab bw xs := ⟨h.tr.below hb', blk_below h.wbk hb', h.len, h.ne1, h.ne2, h.bw1⟩

theorem OR.put {w1 w : World} {hb ab bw : Nat} {xs ys : List Int} (i v : Int) (tr : TR w1 w hb ab ys) (wbk : w.heap[bw]? = some (.cells (nums .i64 xs).toArray 43 (0, 0))) (hy : ys = xs.set i.toNat v) (len : xs.length = 8) (ne1 : bw ≠ ab) (ne2 : bw ≠ hb) (bw1 : w1.heap.size ≤ bw) :
    OR w1 (w.setCell ⟨bw, i.toNat, none⟩ (.int .i64 v)) hb ab bw ys := by
  refine ⟨⟨⟨blk_far tr.tb.hbk (p := ⟨bw, i.toNat, none⟩) (Ne.symm ne2) _, blk_far tr.tb.abk (p := ⟨bw, i.toNat, none⟩) (Ne.symm ne1) _, tr.tb.le8⟩, tr.ge, ?_, tr.ab1⟩, ?_, by rw [hy, List.length_set]; exact len, ne1, ne2, bw1⟩
  · exact tr.bel.trans ((Foot.setCell (Foot.refl (fun k => k = bw) w) (fun _ => rfl) _).below tr.bel.size (fun b hb => by rw [hb]; exact bw1))
  · have := blk_set wbk i.toNat (.int .i64 v)
    rw [this, hy]
    congr 2
    apply Array.ext'
    simp [nums, List.map_set]
theorem OR.C {w1 w : World} {hb ab bw : Nat} {xs : List Int} (h : OR w1 w hb ab bw xs) : Kd.C (Kd.int .i64) w (some ⟨bw, 0, none⟩) xs.length xs := by
  refine Kd.C_of_reads (d := (0 : Int)) (h1 := fun _ => rfl) ⟨rfl, by have := h.tr.tb.le8; omega, fun hn => ⟨_, rfl, fun j hj => ?_⟩⟩
  rw [add_plain, blk_cell h.wbk, nums_get xs j hj]
  simp [rd]
theorem OR.foot {w1 w w' : World} {hb ab bw : Nat} {xs ys : List Int} (h : OR w1 w hb ab bw xs) (ht : TB w' hb ab ys) (hy : ys = xs) (hf : Foot (fun k => k = ab) w w') : OR w1 w' hb ab bw xs := by
  subst hy
  exact ⟨h.tr.foot ht h.tr.ge hf, hf.blk h.wbk h.ne1, h.len, h.ne1, h.ne2, h.bw1⟩
theorem drop_no {w : World} {hb ab : Nat} {xs : List Int} (h : TB w hb ab xs) (l t : Int) (hd : drops xs l t = false) :
    Calls Try.prog 12 #[.pointer (some ⟨hb, 0, none⟩), .int .i64 l, .int .i64 t] w fun e w' => e = .returned (.bool false) ∧ w' = w := by
  by_cases c : 0 ≤ t
  · have e1 : drops xs l t = turns xs l t := by unfold drops; simp [c]
    rw [e1] at hd
    have H := Aside0.mk (turn_any h l t (-1))
    rw [hd] at H
    clear hd e1
    go_enter Try.func12, Try.ntmps12
    go_wp2_with (go_at_call 24; refine H.out.mono ?_; rintro e w' ⟨rfl, rfl⟩)
    go_ret
    exact ⟨rfl, rfl⟩
  · clear hd
    go_enter Try.func12, Try.ntmps12
    go_wp2
    go_ret
    exact ⟨rfl, rfl⟩
theorem foot_cell {S : Nat → Prop} {w w' : World} (h : Foot S w w') {b : Nat} (hs : ¬ S b) (i : Nat) (hb : b < w.heap.size) : w'.cell? ⟨b, i, none⟩ = w.cell? ⟨b, i, none⟩ := by
  have := h.block b hb hs
  unfold World.cell?
  simp [this]
theorem and7 (l : Int) (h0 : 0 ≤ l) (h1 : l < 8) : bits BinOp.and IntKind.i64 l 7 = l := by
  have : l = 0 ∨ l = 1 ∨ l = 2 ∨ l = 3 ∨ l = 4 ∨ l = 5 ∨ l = 6 ∨ l = 7 := by omega
  rcases this with rfl | rfl | rfl | rfl | rfl | rfl | rfl | rfl <;> decide +kernel

set_option maxHeartbeats 2000000 in
set_option maxRecDepth 100000 in
theorem latchOne_walk (A : Option Addr) (c : Nat) (ss : List S31) (w : World) (hr : Kd.C k31 w A ss.length ss) (_hw : ∀ x ∈ ss, G31 x) :
    Calls Try.prog 5 #[.slice A ss.length c] w fun e w' => e = .returned (.bool true) ∧ Below w.heap.size w w' := by
  have hmax := Kd.C_max hr
  have HC := Aside0.mk hr
  have HG := Aside0.mk _hw
  clear hr _hw
  by_cases hl : 300 < ss.length
  · go_enter Try.func5, Try.ntmps5
    go_wp2_with fail
    refine (alive w).mono ?_
    rintro e w1 ⟨rfl, b1⟩
    go_wp2
    go_ret
    exact ⟨rfl, b1⟩
  · go_enter Try.func5, Try.ntmps5
    go_wp2_with fail
    refine (alive w).mono ?_
    rintro e w1 ⟨rfl, b1⟩
    have B1 := Aside0.mk b1
    have s1 := b1.size
    clear b1
    go_wp2_with fail
    refine (new_at 8 8 (by omega) w1).mono ?_
    rintro e w2 ⟨hb, ab, rfl, t2, g1, g2, b2⟩
    have T2 : Aside0 (TR w1 w2 hb ab (List.replicate 8 (-1))) := ⟨⟨t2, by intro y hy; rw [(List.mem_replicate.1 hy).2]; exact Int.le_refl _, b2, g2⟩⟩
    clear t2 g1 g2 b2
    go_wp2
    have O2 : Aside0 (OR w1 (w2.alloc (.cells #[.int .i64 (-1), .int .i64 (-1), .int .i64 (-1), .int .i64 (-1), .int .i64 (-1), .int .i64 (-1), .int .i64 (-1), .int .i64 (-1)] 43)) hb ab w2.heap.size (List.replicate 8 (-1))) := by
      have hba := below_alloc (Below.refl w2.heap.size w2) (.cells #[.int .i64 (-1), .int .i64 (-1), .int .i64 (-1), .int .i64 (-1), .int .i64 (-1), .int .i64 (-1), .int .i64 (-1), .int .i64 (-1)] 43)
      have h1 := blk_lt T2.out.tb.hbk
      have h2 := blk_lt T2.out.tb.abk
      exact ⟨⟨T2.out.below hba, blk_new _ _, rfl, by omega, by omega, T2.out.bel.size⟩⟩
    obtain ⟨bw, hbw⟩ : ∃ bw, w2.heap.size = bw := ⟨_, rfl⟩
    rw [hbw] at O2
    rw [hbw]
    clear hbw T2
    go_loopw [5, 6, 7] (fun i o th wr => ∃ (k : Nat) (xs : List Int), i = .int .i64 k ∧ k ≤ ss.length ∧ Aside0 (OR w1 wr hb ab bw xs)) (fun i _ _ _ => ss.length - (intOf i).toNat)
    case atStart => exact ⟨0, _, rfl, Nat.zero_le _, O2⟩
    case round =>
      clear O2
      obtain ⟨k, xs, rfl, hk, HO⟩ := hrel
      obtain ⟨wo, rfl⟩ : ∃ wo : World, wo = wr := ⟨_, rfl⟩
      have hsz := HO.out.tr.bel.size
      have hl8 := HO.out.len
      by_cases hlt : k < ss.length
      · obtain ⟨ad, hA, c0, c1, c2⟩ := at_T31 (Kd.C_below HC.out (below_then B1.out s1 HO.out.tr.bel)) k (by omega) (by omega)
        subst hA
        rw [Int.toNat_natCast] at c0 c1 c2
        obtain ⟨x, hx⟩ : ∃ x, rd_T31 ss k = x := ⟨_, rfl⟩
        rw [hx] at c0 c1 c2
        clear hx
        obtain ⟨l, hl1⟩ : ∃ l, x.f1 = l := ⟨_, rfl⟩
        obtain ⟨t, ht1⟩ : ∃ t, x.f2 = t := ⟨_, rfl⟩
        rw [hl1] at c1
        rw [ht1] at c2
        clear hl1 ht1
        by_cases h1 : x.f0 = 1
        · rw [h1] at c0
          clear h1
          by_cases hl0 : l < 0
          · have e1 : takes xs l t = false := by unfold takes turns; simp; omega
            have e2 : take_ xs l t = xs := by unfold take_; rw [e1]; rfl
            go_wp2_with fail
            have HO' := Aside0.mk (HO.out.below (below_alloc (Below.refl _ _) (.cells #[.int .i64 1, .int .i64 l, .int .i64 t] 31)))
            refine (take_any HO'.out.tr.tb l t).mono ?_
            rintro e w3 ⟨rfl, t3, f3⟩
            have O3 := Aside0.mk (HO'.out.foot t3 e2 f3)
            clear t3 f3 e2
            rw [e1]
            go_wp2
            go_roundw
            case rel => exact ⟨k + 1, xs, by go_num, by omega, O3⟩
            case measure => simp [intOf]; omega
          by_cases hl1 : 8 ≤ l
          · have e1 : takes xs l t = false := by unfold takes turns; simp; omega
            have e2 : take_ xs l t = xs := by unfold take_; rw [e1]; rfl
            go_wp2_with fail
            have HO' := Aside0.mk (HO.out.below (below_alloc (Below.refl _ _) (.cells #[.int .i64 1, .int .i64 l, .int .i64 t] 31)))
            refine (take_any HO'.out.tr.tb l t).mono ?_
            rintro e w3 ⟨rfl, t3, f3⟩
            have O3 := Aside0.mk (HO'.out.foot t3 e2 f3)
            clear t3 f3 e2
            rw [e1]
            go_wp2
            go_roundw
            case rel => exact ⟨k + 1, xs, by go_num, by omega, O3⟩
            case measure => simp [intOf]; omega
          by_cases ht0 : t < 0
          · have e1 : takes xs l t = false := by unfold takes turns; simp; omega
            have e2 : take_ xs l t = xs := by unfold take_; rw [e1]; rfl
            go_wp2_with fail
            have HO' := Aside0.mk (HO.out.below (below_alloc (Below.refl _ _) (.cells #[.int .i64 1, .int .i64 l, .int .i64 t] 31)))
            refine (take_any HO'.out.tr.tb l t).mono ?_
            rintro e w3 ⟨rfl, t3, f3⟩
            have O3 := Aside0.mk (HO'.out.foot t3 e2 f3)
            clear t3 f3 e2
            rw [e1]
            go_wp2
            go_roundw
            case rel => exact ⟨k + 1, xs, by go_num, by omega, O3⟩
            case measure => simp [intOf]; omega
          · have g1 : decide (0 ≤ l) = true := decide_eq_true (by omega)
            have g2 : decide (l < 8) = true := decide_eq_true (by omega)
            have g3 : decide (0 ≤ t) = true := decide_eq_true (by omega)
            have g7 := and7 l (by omega) (by omega)
            go_wp2_with fail
            have HO' := Aside0.mk (HO.out.below (below_alloc (Below.refl _ _) (.cells #[.int .i64 1, .int .i64 l, .int .i64 t] 31)))
            refine (take_any HO'.out.tr.tb l t).mono ?_
            rintro e w3 ⟨rfl, t3, f3⟩
            have sb : w3.heap[wo.heap.size]? = some (.cells #[.int .i64 1, .int .i64 l, .int .i64 t] 31 (0, 0)) := f3.blk (blk_new _ _) (by have := blk_lt HO.out.tr.tb.abk; omega)
            have wb := f3.blk HO'.out.wbk HO.out.ne1
            have T3 := Aside0.mk (HO'.out.tr.foot t3 (mem_ge HO.out.tr.ge _ _) f3)
            have sc1 : w3.cell? ⟨wo.heap.size, 1, none⟩ = some (.int .i64 l) := blk_cell sb 1
            have sc2 : w3.cell? ⟨wo.heap.size, 2, none⟩ = some (.int .i64 t) := blk_cell sb 2
            obtain ⟨y, hy⟩ : ∃ y, rd xs l = y := ⟨_, rfl⟩
            have hyge : -1 ≤ y := by
              rw [← hy, show l = ((l.toNat : Nat) : Int) from by omega]
              exact HO.out.tr.ge _ (rd_mem xs _ (by omega))
            have kc : w3.cell? ⟨bw, l.toNat, none⟩ = some (.int .i64 y) := by
              rw [blk_cell wb _, nums_get xs l.toNat (by omega), Int.toNat_of_nonneg (by omega), hy]
            have kf : w3.frozen? ⟨bw, l.toNat, none⟩ = false := blk_frozen wb _
            have WB := Aside0.mk wb
            clear sb wb t3 f3
            by_cases hym : y = -1
            · have e1 : takes xs l t = true := by unfold takes turns; simp; omega
              have e2 : take_ xs l t = xs.set l.toNat t := by unfold take_; rw [e1, if_pos rfl]
              rw [e1]
              rw [e2] at T3
              have g4 : decide (y < 0) = true := decide_eq_true (by omega)
              have hy := Aside0.mk hy
              clear hym e1 e2
              go_wp2
              go_roundw
              case rel => exact ⟨k + 1, _, by go_num, by omega, ⟨OR.put l t T3.out WB.out rfl hl8 HO.out.ne1 HO.out.ne2 HO.out.bw1⟩⟩
              case measure => simp [intOf]; omega
            · have e1 : takes xs l t = false := by unfold takes turns; simp; omega
              have e2 : take_ xs l t = xs := by unfold take_; rw [e1]; rfl
              rw [e1]
              rw [e2] at T3
              have g4 : decide (y < 0) = false := decide_eq_false (by omega)
              have hy := Aside0.mk hy
              clear hym e1 e2
              go_wp2
              go_roundw
              case rel => exact ⟨k + 1, _, by go_num, by omega, ⟨T3.out, WB.out, hl8, HO.out.ne1, HO.out.ne2, HO.out.bw1⟩⟩
              case measure => simp [intOf]; omega
        · by_cases h2 : x.f0 = 2
          · rw [h2] at c0
            clear h1 h2
            by_cases hl0 : l < 0
            · have e1 : Aside0 (drops xs l t = false) := ⟨by unfold drops turns; simp; omega⟩
              go_wp2_with fail
              have HO' := Aside0.mk (HO.out.below (below_alloc (Below.refl _ _) (.cells #[.int .i64 2, .int .i64 l, .int .i64 t] 31)))
              have sbA : (wo.alloc (.cells #[.int .i64 2, .int .i64 l, .int .i64 t] 31)).heap[wo.heap.size]? = some (.cells #[.int .i64 2, .int .i64 l, .int .i64 t] 31 (0, 0)) := blk_new _ _
              have hbo : wo.heap.size ≠ ab := by have := blk_lt HO.out.tr.tb.abk; omega
              obtain ⟨wA, hwA⟩ : ∃ W, wo.alloc (.cells #[.int .i64 2, .int .i64 l, .int .i64 t] 31) = W := ⟨_, rfl⟩
              obtain ⟨bo, hbo'⟩ : ∃ b, wo.heap.size = b := ⟨_, rfl⟩
              rw [hwA] at HO' sbA
              rw [hbo'] at sbA hbo
              rw [hwA, hbo']
              clear hwA hbo'
              have sa1 : wA.cell? ⟨bo, 1, none⟩ = some (.int .i64 l) := blk_cell sbA 1
              have sa2 : wA.cell? ⟨bo, 2, none⟩ = some (.int .i64 t) := blk_cell sbA 2
              have SBA := Aside0.mk sbA
              have HBO := Aside0.mk hbo
              clear sbA hbo
              have HH : Aside0 (∀ n, Calls Try.prog 12 #[.pointer (some ⟨hb, 0, none⟩), .int .i64 l, .int .i64 t] (wA.drewN n) fun e w' => e = .returned (.bool false) ∧ w' = wA.drewN n) := ⟨fun n => drop_no (HO'.out.below (pw_below_drewN (Below.refl _ _) n)).tr.tb l t e1.out⟩
              go_quiet ((go_at_call 12; exact Calls.quiet_of_same (HH.out _)))
              go_wp2
              go_quiet (fail)
              go_wp2
              go_roundw
              case rel => exact ⟨k + 1, xs, by go_num, by omega, ⟨HO'.out.below (pw_below_drewN (Below.refl _ _) _)⟩⟩
              case measure => simp [intOf]; omega
            by_cases hl1 : 8 ≤ l
            · have e1 : Aside0 (drops xs l t = false) := ⟨by unfold drops turns; simp; omega⟩
              go_wp2_with fail
              have HO' := Aside0.mk (HO.out.below (below_alloc (Below.refl _ _) (.cells #[.int .i64 2, .int .i64 l, .int .i64 t] 31)))
              have sbA : (wo.alloc (.cells #[.int .i64 2, .int .i64 l, .int .i64 t] 31)).heap[wo.heap.size]? = some (.cells #[.int .i64 2, .int .i64 l, .int .i64 t] 31 (0, 0)) := blk_new _ _
              have hbo : wo.heap.size ≠ ab := by have := blk_lt HO.out.tr.tb.abk; omega
              obtain ⟨wA, hwA⟩ : ∃ W, wo.alloc (.cells #[.int .i64 2, .int .i64 l, .int .i64 t] 31) = W := ⟨_, rfl⟩
              obtain ⟨bo, hbo'⟩ : ∃ b, wo.heap.size = b := ⟨_, rfl⟩
              rw [hwA] at HO' sbA
              rw [hbo'] at sbA hbo
              rw [hwA, hbo']
              clear hwA hbo'
              have sa1 : wA.cell? ⟨bo, 1, none⟩ = some (.int .i64 l) := blk_cell sbA 1
              have sa2 : wA.cell? ⟨bo, 2, none⟩ = some (.int .i64 t) := blk_cell sbA 2
              have SBA := Aside0.mk sbA
              have HBO := Aside0.mk hbo
              clear sbA hbo
              have HH : Aside0 (∀ n, Calls Try.prog 12 #[.pointer (some ⟨hb, 0, none⟩), .int .i64 l, .int .i64 t] (wA.drewN n) fun e w' => e = .returned (.bool false) ∧ w' = wA.drewN n) := ⟨fun n => drop_no (HO'.out.below (pw_below_drewN (Below.refl _ _) n)).tr.tb l t e1.out⟩
              go_quiet ((go_at_call 12; exact Calls.quiet_of_same (HH.out _)))
              go_wp2
              go_quiet (fail)
              go_wp2
              go_roundw
              case rel => exact ⟨k + 1, xs, by go_num, by omega, ⟨HO'.out.below (pw_below_drewN (Below.refl _ _) _)⟩⟩
              case measure => simp [intOf]; omega
            by_cases ht0 : t < 0
            · have e1 : Aside0 (drops xs l t = false) := ⟨by unfold drops turns; simp; omega⟩
              have g1 : decide (0 ≤ l) = true := decide_eq_true (by omega)
              have g2 : decide (l < 8) = true := decide_eq_true (by omega)
              have g3 : decide (0 ≤ t) = false := decide_eq_false (by omega)
              go_wp2_with fail
              have HO' := Aside0.mk (HO.out.below (below_alloc (Below.refl _ _) (.cells #[.int .i64 2, .int .i64 l, .int .i64 t] 31)))
              have sbA : (wo.alloc (.cells #[.int .i64 2, .int .i64 l, .int .i64 t] 31)).heap[wo.heap.size]? = some (.cells #[.int .i64 2, .int .i64 l, .int .i64 t] 31 (0, 0)) := blk_new _ _
              have hbo : wo.heap.size ≠ ab := by have := blk_lt HO.out.tr.tb.abk; omega
              obtain ⟨wA, hwA⟩ : ∃ W, wo.alloc (.cells #[.int .i64 2, .int .i64 l, .int .i64 t] 31) = W := ⟨_, rfl⟩
              obtain ⟨bo, hbo'⟩ : ∃ b, wo.heap.size = b := ⟨_, rfl⟩
              rw [hwA] at HO' sbA
              rw [hbo'] at sbA hbo
              rw [hwA, hbo']
              clear hwA hbo'
              have sa1 : wA.cell? ⟨bo, 1, none⟩ = some (.int .i64 l) := blk_cell sbA 1
              have sa2 : wA.cell? ⟨bo, 2, none⟩ = some (.int .i64 t) := blk_cell sbA 2
              have SBA := Aside0.mk sbA
              have HBO := Aside0.mk hbo
              clear sbA hbo
              have HH : Aside0 (∀ n, Calls Try.prog 12 #[.pointer (some ⟨hb, 0, none⟩), .int .i64 l, .int .i64 t] (wA.drewN n) fun e w' => e = .returned (.bool false) ∧ w' = wA.drewN n) := ⟨fun n => drop_no (HO'.out.below (pw_below_drewN (Below.refl _ _) n)).tr.tb l t e1.out⟩
              go_quiet ((go_at_call 12; exact Calls.quiet_of_same (HH.out _)))
              go_wp2
              go_quiet (fail)
              go_wp2
              go_roundw
              case rel => exact ⟨k + 1, xs, by go_num, by omega, ⟨HO'.out.below (pw_below_drewN (Below.refl _ _) _)⟩⟩
              case measure => simp [intOf]; omega
            · have g1 : decide (0 ≤ l) = true := decide_eq_true (by omega)
              have g2 : decide (l < 8) = true := decide_eq_true (by omega)
              have g3 : decide (0 ≤ t) = true := decide_eq_true (by omega)
              have g7 := and7 l (by omega) (by omega)
              go_wp2_with fail
              have HO' := Aside0.mk (HO.out.below (below_alloc (Below.refl _ _) (.cells #[.int .i64 2, .int .i64 l, .int .i64 t] 31)))
              have sbA : (wo.alloc (.cells #[.int .i64 2, .int .i64 l, .int .i64 t] 31)).heap[wo.heap.size]? = some (.cells #[.int .i64 2, .int .i64 l, .int .i64 t] 31 (0, 0)) := blk_new _ _
              have hbo : wo.heap.size ≠ ab := by have := blk_lt HO.out.tr.tb.abk; omega
              obtain ⟨wA, hwA⟩ : ∃ W, wo.alloc (.cells #[.int .i64 2, .int .i64 l, .int .i64 t] 31) = W := ⟨_, rfl⟩
              obtain ⟨bo, hbo'⟩ : ∃ b, wo.heap.size = b := ⟨_, rfl⟩
              rw [hwA] at HO' sbA
              rw [hbo'] at sbA hbo
              rw [hwA, hbo']
              clear hwA hbo'
              have sa1 : wA.cell? ⟨bo, 1, none⟩ = some (.int .i64 l) := blk_cell sbA 1
              have sa2 : wA.cell? ⟨bo, 2, none⟩ = some (.int .i64 t) := blk_cell sbA 2
              have SBA := Aside0.mk sbA
              have HBO := Aside0.mk hbo
              clear sbA hbo
              obtain ⟨y, hy⟩ : ∃ y, rd xs l = y := ⟨_, rfl⟩
              have ka : wA.cell? ⟨bw, l.toNat, none⟩ = some (.int .i64 y) := by
                rw [blk_cell HO'.out.wbk _, nums_get xs l.toNat (by omega), Int.toNat_of_nonneg (by omega), hy]
              by_cases hyt : y = t
              · have e1 : drops xs l t = true := by unfold drops turns; simp; omega
                have e2 : drop_ xs l t = xs.set l.toNat (-1) := by unfold drop_; rw [e1, if_pos rfl]
                have g4 : (y == t) = true := beq_iff_eq.2 hyt
                clear hyt hy
                have e2 := Aside0.mk e2
                have e1 := Aside0.mk e1
                have HD := Aside0.mk (HO'.out.below (below_drew (Below.refl _ _)))
                have WBD := Aside0.mk (HD.out.wbk)
                have NE := Aside0.mk HD.out.ne1
                have SBD : Aside0 (wA.drew.heap[bo]? = some (.cells #[.int .i64 2, .int .i64 l, .int .i64 t] 31 (0, 0))) := SBA
                have nums := Aside0.mk (nums_get xs l.toNat (by omega))
                first | (go_region_held3 (fun w' => w'.cell? ⟨bo, 1, none⟩ = some (.int .i64 l) ∧ w'.cell? ⟨bo, 2, none⟩ = some (.int .i64 t) ∧ w'.cell? ⟨bw, l.toNat, none⟩ = some (.int .i64 y)) (go_keep) (first
                  | (go_at_call 12; refine (drop_any HD.out.tr.tb l t).mono ?_; rintro e w3 ⟨rfl, t3, f3⟩; rw [e1.out]; have sc1 : w3.cell? ⟨bo, 1, none⟩ = some (.int .i64 l) := blk_cell (f3.blk SBD.out HBO.out) 1; have sc2 : w3.cell? ⟨bo, 2, none⟩ = some (.int .i64 t) := blk_cell (f3.blk SBD.out HBO.out) 2; have kc : w3.cell? ⟨bw, l.toNat, none⟩ = some (.int .i64 y) := (foot_cell f3 NE.out l.toNat (blk_lt WBD.out)).trans ka; have W3 := Aside0.mk (f3.blk WBD.out NE.out); have kf : w3.frozen? ⟨bw, l.toNat, none⟩ = false := blk_frozen W3.out _; have T3 := Aside0.mk (HD.out.tr.foot t3 (mem_ge' HO.out.tr.ge _ _) f3); clear t3 f3))) | fail
                go_wp2
                go_quiet (fail)
                go_wp2
                go_roundw
                case rel => exact ⟨k + 1, _, by go_num, by omega, ⟨OR.put l (-1) (T3.out.below (pw_below_drewN (Below.refl _ _) _)) (blk_below W3.out (pw_below_drewN (Below.refl _ _) _)) e2.out hl8 HO.out.ne1 HO.out.ne2 HO.out.bw1⟩⟩
                case measure => simp [intOf]; omega
              · have e1 : Aside0 (drops xs l t = false) := ⟨by unfold drops turns; simp; omega⟩
                have g4 : (y == t) = false := beq_eq_false_iff_ne.2 hyt
                clear hyt hy
                have HH : Aside0 (∀ n, Calls Try.prog 12 #[.pointer (some ⟨hb, 0, none⟩), .int .i64 l, .int .i64 t] (wA.drewN n) fun e w' => e = .returned (.bool false) ∧ w' = wA.drewN n) := ⟨fun n => drop_no (HO'.out.below (pw_below_drewN (Below.refl _ _) n)).tr.tb l t e1.out⟩
                go_quiet ((go_at_call 12; exact Calls.quiet_of_same (HH.out _)))
                go_wp2
                go_quiet (fail)
                go_wp2
                go_roundw
                case rel => exact ⟨k + 1, xs, by go_num, by omega, ⟨HO'.out.below (pw_below_drewN (Below.refl _ _) _)⟩⟩
                case measure => simp [intOf]; omega
          · obtain ⟨f, hf⟩ : ∃ f, x.f0 = f := ⟨_, rfl⟩
            rw [hf] at c0 h1 h2
            clear hf
            have d1 : (f == 1) = false := beq_eq_false_iff_ne.2 h1
            have d2 : (f == 2) = false := beq_eq_false_iff_ne.2 h2
            clear h1 h2
            by_cases hl0 : l < 0
            · go_wp2
              go_roundw
              case rel => exact ⟨k + 1, xs, by go_num, by omega, ⟨HO.out.below (below_alloc (Below.refl _ _) _)⟩⟩
              case measure => simp [intOf]; omega
            by_cases hl1 : 8 ≤ l
            · go_wp2
              go_roundw
              case rel => exact ⟨k + 1, xs, by go_num, by omega, ⟨HO.out.below (below_alloc (Below.refl _ _) _)⟩⟩
              case measure => simp [intOf]; omega
            · go_wp2
              go_roundw
              case rel => exact ⟨k + 1, xs, by go_num, by omega, ⟨HO.out.below (below_alloc (Below.refl _ _) _)⟩⟩
              case measure => simp [intOf]; omega
      · go_wp2_with fail
        have HD := Aside0.mk (HO.out.below (below_drew (Below.refl _ _)))
        first | (go_region_held3 (fun w' => True) (trivial) (first
          | (go_at_call 20; refine (all_any HD.out.tr.tb).mono ?_; rintro e w4 ⟨v4, rfl, r4, b4⟩; obtain ⟨A4, c4, hv4, hl4, hC4⟩ := Kd.R_reads r4; subst hv4; have R4 := Aside0.mk hC4; have O4 := Aside0.mk (HD.out.below b4); clear r4 b4 hC4)
          | (go_at_call 17; rw [show (8 : Nat) = xs.length from hl8.symm]; refine (sameInts_any xs xs _ _ _ _ _ R4.out hl4 O4.out.C (Nat.le_refl _) (by omega)).mono ?_; rintro e w5 ⟨rfl, d5⟩; rw [decide_eq_true (rfl : xs = xs)]; have O5 := Aside0.mk (O4.out.below d5.below); clear d5))) | fail
        go_wp2
        go_ret
        exact ⟨rfl, below_then B1.out s1 O5.out.tr.bel⟩
end Go.Proofs.Ytdildjgkjmoihaa.Latch
