import Derived.Test.YtogjcogejfidbaaN
import Derived.Test.YtogjcogejfidbaaP
namespace Go.Proofs.Ytogjcogejfidbaa.Heap
open Go.RowKit Go.Proofs.YtogjcogejfidbaaW.PrintWords Go.Proofs.YtogjcogejfidbaaW.PrintLast Go.Proofs.YtogjcogejfidbaaW.PrintMore Go.Proofs.Ytogjcogejfidbaa.PHeapSteps
set_option linter.unusedVariables false
set_option linter.unusedSimpArgs false
def zero300 : Array Value := (List.replicate 300 (Value.int .i64 0)).toArray
theorem build57 (ev : Operand → Value) (W : World) : (execOp ev { dst := some 29, op := Op.build 57 #[], type := 57, pos := "law.go:89", after := #[], guard := none }).run Try.prog W = .ok (.value (.agg zero300)) W := by kernel_rfl
theorem zero57 (W : World) : (zeroValue 57).run Try.prog W = .ok (.agg zero300) W := by kernel_rfl
structure ARx (F X : Nat → Prop) (base sb : Nat) (w1 wr : World) (A : List S65) (S : Int → Bool) : Prop where
  hr : HR wr base F (base + 1) A
  hF : ∀ b, F b → base ≤ b ∧ b < wr.heap.size ∧ ¬ X b
  seen : wr.heap[sb]? = some (.cells (seenCells S) 57 (0, 0))
  Xs : X sb
  bel : Below base w1 wr
  size : base ≤ wr.heap.size
  hX : ∀ b, X b → b < wr.heap.size
/-- The heap, the array of those seen; X: blocks that are none of the heap's. -/
def ARel (X : Nat → Prop) (base sb : Nat) (w1 wr : World) (A : List S65) (S : Int → Bool) : Prop := ∃ F, ARx F X base sb w1 wr A S
section
variable {X : Nat → Prop} {base sb : Nat} {w1 wr w' : World} {A : List S65} {S : Int → Bool}
theorem ARel.below (h : ARel X base sb w1 wr A S) (hb : Below wr.heap.size wr w') : ARel X base sb w1 w' A S := by
  obtain ⟨F, h⟩ := h
  exact ⟨F, h.hr.below hb, fun b hF => ⟨(h.hF b hF).1, Nat.lt_of_lt_of_le (h.hF b hF).2.1 hb.size, (h.hF b hF).2.2⟩, blk_below h.seen hb, h.Xs, below_then h.bel h.size hb, Nat.le_trans h.size hb.size, fun b hx => Nat.lt_of_lt_of_le (h.hX b hx) hb.size⟩
theorem ARel.more (h : ARel X base sb w1 wr A S) (o : Obj) : ARel (fun b => X b ∨ b = wr.heap.size) base sb w1 (wr.alloc o) A S := by
  obtain ⟨F, h⟩ := h.below (below_alloc (Below.refl _ _) o)
  obtain ⟨F', h'⟩ := ‹ARel X base sb w1 wr A S›
  have hb := below_alloc (Below.refl wr.heap.size wr) o
  refine ⟨F', h'.hr.below hb, fun b hF => ⟨(h'.hF b hF).1, Nat.lt_of_lt_of_le (h'.hF b hF).2.1 hb.size, ?_⟩, h.seen, .inl h.Xs, h.bel, h.size, fun b hx => ?_⟩
  · rintro (h | h)
    · exact (h'.hF b hF).2.2 h
    · have := (h'.hF b hF).2.1; omega
  · rcases hx with hx | rfl
    · exact h.hX b hx
    · simp
theorem ARel.less {Y : Nat → Prop} (h : ARel X base sb w1 wr A S) (hY : ∀ b, Y b → X b) (hs : Y sb) : ARel Y base sb w1 wr A S := by
  obtain ⟨F, h⟩ := h
  exact ⟨F, h.hr, fun b hF => ⟨(h.hF b hF).1, (h.hF b hF).2.1, fun hy => (h.hF b hF).2.2 (hY b hy)⟩, h.seen, hs, h.bel, h.size, fun b hy => h.hX b (hY b hy)⟩
theorem ARel.congr {T : Int → Bool} (h : ARel X base sb w1 wr A S) (hT : ∀ a, S a = T a) : ARel X base sb w1 wr A T := by
  rwa [← (funext hT : S = T)]
theorem ARel.made (h : ARel X base sb w1 wr A S) (t s f o : Int) :
    Calls Try.prog 9 #[.pointer (some ⟨base + 1, 0, none⟩), .int .i64 t, .int .i64 s, .int .i64 f, .int .i64 o] wr fun e w' =>
      e = .returned (.tuple #[.int .i64 (make A t s f o).2.1, .bool (make A t s f o).2.2]) ∧ ARel X base sb w1 w' (make A t s f o).1 S ∧ (∀ g b, X g → wr.heap[g]? = some b → w'.heap[g]? = some b) ∧ wr.heap.size ≤ w'.heap.size := by
  obtain ⟨F, h⟩ := h
  refine (make_any h.hr h.size t s f o).mono ?_
  rintro e w' ⟨rfl, k1, k2⟩
  have hX : ∀ g b, X g → wr.heap[g]? = some b → w'.heap[g]? = some b := fun g b hg hb => k2.blk hb (fun hF => (h.hF g hF).2.2 hg)
  refine ⟨rfl, ⟨_, k1.bound, ?_, hX _ _ h.Xs h.seen, h.Xs, h.bel.trans (k2.below h.size (fun b hb => (h.hF b hb).1)), Nat.le_trans h.size k2.size, fun b hx => Nat.lt_of_lt_of_le (h.hX b hx) k2.size⟩, hX, k2.size⟩
  rintro b ⟨hb | hb, hlt⟩
  · exact ⟨(h.hF b hb).1, hlt, (h.hF b hb).2.2⟩
  · exact ⟨Nat.le_trans h.size hb, hlt, fun hx => by have := h.hX b hx; omega⟩
theorem ARel.put (h : ARel X base sb w1 wr A S) (hs : base ≤ sb) (a : Int) (h0 : 0 ≤ a) : ARel X base sb w1 (wr.setCell ⟨sb, a.toNat, none⟩ (.int .i64 1)) A (fun b => S b || b == a) := by
  obtain ⟨F, h⟩ := h
  have hf : Foot (fun b => b = sb) wr (wr.setCell ⟨sb, a.toNat, none⟩ (.int .i64 1)) := (Foot.refl (fun b => b = sb) wr).setCell (p := ⟨sb, a.toNat, none⟩) (fun _ => rfl) _
  refine ⟨F, h.hr.foot hf (fun k hk e => (h.hF k hk).2.2 (by rw [e]; exact h.Xs)), fun b hF => ?_, ?_, h.Xs, h.bel.setCell hs _, ?_, fun b hx => ?_⟩
  · obtain ⟨x, y, z⟩ := h.hF b hF
    exact ⟨x, by simpa [World.setCell] using y, z⟩
  · rw [← seen_set S a h0]
    exact blk_set h.seen _ _
  · simpa [World.setCell] using h.size
  · simpa [World.setCell] using h.hX b hx
end

set_option maxHeartbeats 2000000 in
set_option maxRecDepth 100000 in
theorem heapApart_walk (n : Int) (A : Option Addr) (c : Nat) (xs : List S40) (w : World) (_hn : (Lit.int .i64 n).wf = true) (hr : Kd.C k40 w A xs.length xs) (hw : ∀ x ∈ xs, G40 x)  :
    Calls Try.prog 5 #[.int .i64 n, .slice A xs.length c] w fun e w' => e = .returned (.bool true) ∧ Below w.heap.size w w' := by
  have hmax := Kd.C_max hr
  have HC := Aside0.mk hr
  have HW := Aside0.mk hw
  clear hr hw
  by_cases hl : 200 < xs.length
  · go_enter Try.func5, Try.ntmps5
    go_wp2_with fail
    refine (alive w).mono ?_
    rintro e w1 ⟨rfl, b1⟩
    go_wp2
    go_ret
    exact ⟨rfl, b1⟩
  · go_enter Try.func5, Try.ntmps5
    go_wp2_with fail
    refine (alive w).mono ?_
    rintro e w1 ⟨rfl, b1⟩
    have B1 := Aside0.mk b1
    have s1 := b1.size
    clear b1
    go_wp2_with fail
    refine (new_HR n w1).mono ?_
    rintro e w2 ⟨rfl, h2, b2⟩
    have hz := zero57
    have H2 : Aside0 (ARel (fun b => b = w2.heap.size) w1.heap.size w2.heap.size w1 ((w2.alloc (.cells zero300 57)).setRow w2.heap.size zero300) (new n) (fun a => (Heap.place (new n) a).isSome)) := by
      have hno : ∀ a, (Heap.place (new n) a).isSome = false := by
        intro a
        have : (ar (new n) ((a - 1) / 64)).f0 = [] := by
          unfold ar new
          split
          · rfl
          · rw [List.getD_eq_getElem?_getD, List.getElem?_replicate]
            split <;> rfl
        unfold Heap.place
        rw [this, if_neg (by simp; omega)]
        rfl
      have hzero : seenCells (fun a => (Heap.place (new n) a).isSome) = zero300 := by
        rw [seen_congr (T := fun _ => false) hno]
        rfl
      have hs2 := b2.size
      have ha := below_alloc (Below.refl w2.heap.size w2) (.cells zero300 57)
      have hrow : Foot (fun b => b = w2.heap.size) w2 ((w2.alloc (.cells zero300 57)).setRow w2.heap.size zero300) := by
        refine (Foot.of_below ha).trans (T := fun b => b = w2.heap.size) ⟨rfl, rfl, rfl, by simp, fun b hb hne => ?_⟩ (fun b hb _ => hb)
        simp only [World.setRow, Array.getElem?_modify]
        rw [if_neg (by omega)]
      refine ⟨_, ⟨h2.bound.foot hrow (fun b hb e => by omega), fun b hb => ⟨hb.1, ?_, by omega⟩, ?_, rfl, (b2.trans (hrow.below hs2 (fun b hb => by omega))), ?_, ?_⟩⟩
      · have := hrow.size; omega
      · rw [hzero]
        have := blk_new w2 (.cells zero300 57)
        simp only [World.setRow, Array.getElem?_modify]
        rw [this]
        rfl
      · exact Nat.le_trans hs2 hrow.size
      · rintro b rfl
        simp
    have s2 := b2.size
    clear h2 b2
    go_wp2_with (first
      | (refine Kd.event_run (v := .agg zero300) rfl (build57 _ _) ?_)
      | (refine wpList_store_row rfl 57 (.tmp 6) (.tmp 29) rfl w2.heap.size zero300 rfl rfl 57 zero300 (blk_new _ _) (by kernel_rfl) rfl (by kernel_rfl) ?_))
    have HZ := Aside0.mk hz
    clear hz
    go_loopw [7] (fun i wr => ∃ (k : Nat) (A' : List S65), i = .int .i64 k ∧ k ≤ xs.length ∧ Aside0 (ARel (fun b => b = w2.heap.size) w1.heap.size w2.heap.size w1 wr A' (fun a => (Heap.place A' a).isSome))) (fun i _ => xs.length - (intOf i).toNat)
    case atStart => exact ⟨0, _, rfl, Nat.zero_le _, H2⟩
    case round =>
      obtain ⟨k, A', rfl, hk, HK⟩ := hrel
      obtain ⟨wo, rfl⟩ : ∃ wo : World, wo = wr := ⟨_, rfl⟩
      clear H2
      obtain ⟨F0, hF0⟩ := HK.out
      have hB := hF0.bel
      have hsz := hF0.size
      clear hF0 F0
      by_cases hlt : k < xs.length
      · obtain ⟨ad, hA, c0, c1, c2, c3, c4⟩ := at_T40 (Kd.C_below HC.out (below_then B1.out s1 hB)) k (by omega) (by omega)
        have hx40 := HW.out (rd_T40 xs k) (by unfold rd_T40; rw [Int.toNat_natCast, List.getD_eq_getElem?_getD, List.getElem?_eq_getElem hlt]; exact List.getElem_mem hlt)
        have HB := Aside0.mk hB
        clear hB
        subst hA
        rw [Int.toNat_natCast] at c0 c1 c2 c3 c4
        obtain ⟨x, hx⟩ : ∃ x, rd_T40 xs k = x := ⟨_, rfl⟩
        rw [hx] at c0 c1 c2 c3 c4 hx40
        clear hx
        have hadb := World.block_lt_of_cell? wo _ c0
        by_cases h1 : x.f0 = 1
        · have hd1 : (x.f0 == 1) = true := beq_iff_eq.2 h1
          have hd2 : (x.f0 != 1) = false := by rw [bne_eq_false_iff_eq]; exact h1
          have HE := Aside0.mk h1
          clear h1
          rcases make_cases A' x.f1 x.f2 x.f3 x.f4 with ⟨hm, _⟩ | ⟨hm, h0, _⟩ | ⟨A2, a, hm, g⟩
          · have HM := Aside0.mk hm
            clear hm
            go_wp2_with fail
            refine ((HK.out.more (.cells #[.int .i64 x.f0, .int .i64 x.f1, .int .i64 x.f2, .int .i64 x.f3, .int .i64 x.f4] 40)).made x.f1 x.f2 x.f3 x.f4).mono ?_
            rintro e w3 ⟨rfl, h3, h4, s3⟩
            rw [HM.out] at h3 ⊢
            have H3 := Aside0.mk (h3.less (Y := fun b => b = w2.heap.size) (fun b hb => .inl hb) rfl)
            clear h3 h4
            go_wp2
            go_roundw
            case rel => exact ⟨k + 1, A', by go_num, by omega, H3⟩
            case measure => simp [intOf]; omega
          · have HM := Aside0.mk hm
            have hd3 : (x.f2 != 0) = false := by rw [bne_eq_false_iff_eq]; exact h0
            have hd4 : (x.f2 == 0) = true := beq_iff_eq.2 h0
            clear hm h0
            go_wp2_with fail
            refine ((HK.out.more (.cells #[.int .i64 x.f0, .int .i64 x.f1, .int .i64 x.f2, .int .i64 x.f3, .int .i64 x.f4] 40)).made x.f1 x.f2 x.f3 x.f4).mono ?_
            rintro e w3 ⟨rfl, h3, h4, s3⟩
            have k3 := blk_cell (h4 _ _ (.inr rfl) (blk_new _ _)) 2
            rw [HM.out] at h3 ⊢
            have H3 := Aside0.mk (h3.less (Y := fun b => b = w2.heap.size) (fun b hb => .inl hb) rfl)
            clear h3 h4
            go_wp2
            go_roundw
            case rel => exact ⟨k + 1, A', by go_num, by omega, H3⟩
            case measure => simp [intOf]; omega
          · have HM := Aside0.mk hm
            have hlo := g.lo
            obtain ⟨h4l, hgood⟩ : A'.length ≤ 4 ∧ GoodAr (ar A' x.f1) := by obtain ⟨F0, hF0⟩ := HK.out; exact ⟨hF0.hr.le4, hF0.hr.good _⟩
            have hhi := g.hi h4l
            have hs0 := g.s0
            have HG := Aside0.mk g
            have HGd := Aside0.mk hgood
            have ha0 : (a == 0) = false := beq_eq_false_iff_ne.2 (by omega)
            clear hm g hgood h4l
            go_wp2_with fail
            refine ((HK.out.more (.cells #[.int .i64 x.f0, .int .i64 x.f1, .int .i64 x.f2, .int .i64 x.f3, .int .i64 x.f4] 40)).made x.f1 x.f2 x.f3 x.f4).mono ?_
            rintro e w3 ⟨rfl, h3, h4, s3⟩
            have HO3 := Aside0.mk (h4 _ _ (.inr rfl) (blk_new _ _))
            rw [HM.out] at h3 ⊢
            have H3 := Aside0.mk h3
            clear h3 h4
            simp at s3
            have hobsb : wo.heap.size ≠ w2.heap.size := by
              obtain ⟨F0, hF0⟩ := HK.out
              have := blk_lt hF0.seen
              omega
            go_wp2
            go_loopw [11] (fun i wi => ∃ (j : Nat), i = .int .i64 j ∧ (j : Int) ≤ x.f2 ∧ Aside0 (ARel (fun b => b = w2.heap.size ∨ b = wo.heap.size) w1.heap.size w2.heap.size w1 wi A2 (fun b => (Heap.place A' b).isSome || (decide (a ≤ b) && decide (b < a + j)))) ∧ Aside0 (wi.heap[wo.heap.size]? = some (.cells #[.int .i64 x.f0, .int .i64 x.f1, .int .i64 x.f2, .int .i64 x.f3, .int .i64 x.f4] 40))) (fun i _ => (x.f2 - intOf i).toNat)
            case atStart =>
              refine ⟨0, rfl, by omega, ⟨H3.out.congr (fun b => ?_)⟩, HO3⟩
              have : (decide (a ≤ b) && decide (b < a + ((0 : Nat) : Int))) = false := by simp
              exact (by rw [this, Bool.or_false] : (Heap.place A' b).isSome = ((Heap.place A' b).isSome || (decide (a ≤ b) && decide (b < a + ((0 : Nat) : Int)))))
            case round =>
              obtain ⟨j, rfl, hj, HA, HO⟩ := hrel
              clear H3 HO3
              have o1 := blk_cell HO.out 1
              have o2 := blk_cell HO.out 2
              have o3 := blk_cell HO.out 3
              have o4 := blk_cell HO.out 4
              have hol := blk_lt HO.out
              by_cases hjs : (j : Int) < x.f2
              · have hd1' : 1 ≤ a + j := by omega
                have hd2' : a + j ≤ 256 := by omega
                have hseen : wr.heap[w2.heap.size]? = some (.cells (seenCells (fun b => (Heap.place A' b).isSome || (decide (a ≤ b) && decide (b < a + j)))) 57 (0, 0)) := by obtain ⟨F0, hF0⟩ := HA.out; exact hF0.seen
                have q1 := (blk_cell hseen (a + j).toNat).trans (seen_at _ (a + j) (by omega) (by omega))
                have q2 := blk_frozen hseen (a + j).toNat
                have q3 : ((Heap.place A' (a + j)).isSome || (decide (a ≤ a + (j : Int)) && decide (a + (j : Int) < a + j))) = false := by
                  rw [(HG.out.in_ (a + j) ⟨by omega, by omega⟩).1]; simp
                rw [q3] at q1
                have q4 := Aside0.mk (HA.out.put (by omega) (a + j) (by omega))
                have q5 := Aside0.mk (blk_far HO.out (p := ⟨w2.heap.size, (a + j).toNat, none⟩) hobsb (.int .i64 1))
                simp only [Bool.false_eq_true, if_false] at q1
                have hsz2 : (wr.setCell ⟨w2.heap.size, (a + j).toNat, none⟩ (.int .i64 1)).heap.size = wr.heap.size := by simp [World.setCell]
                have HS2 := Aside0.mk hsz2
                clear hseen q3 hsz2
                have hu : Aside0 (HA.out = HA.out) := ⟨rfl⟩
                clear hu
                go_wp2_with fail
                obtain ⟨F1, f1⟩ := q4.out
                have f1' := Aside0.mk f1
                clear f1
                refine (of_any f1'.out.hr (a + j) (by omega)).mono ?_
                rintro e w5 ⟨rfl, b5⟩
                rw [HG.out.obj_ HGd.out (a + j) ⟨by omega, by omega⟩]
                have B5 := Aside0.mk (below_alloc b5 (.cells #[.int .i64 (ar A' x.f1).f0.length, .int .i64 x.f2, .int .i64 x.f3, .int .i64 x.f4] 51))
                have Q5 := Aside0.mk (q4.out.below B5.out)
                have O5 := Aside0.mk (blk_below q5.out B5.out)
                have C5 := Aside0.mk (blk_new w5 (.cells #[.int .i64 (ar A' x.f1).f0.length, .int .i64 x.f2, .int .i64 x.f3, .int .i64 x.f4] 51))
                clear b5 f1'
                unfold ob
                go_wp2_with fail
                obtain ⟨F2, f2⟩ := Q5.out
                have f2' := Aside0.mk f2
                clear f2
                refine (load_any f2'.out.hr (a + j) (by omega)).mono ?_
                rintro e w6 ⟨rfl, b6⟩
                rw [HG.out.load_ (a + j) ⟨by omega, by omega⟩]
                have B6 := Aside0.mk (below_alloc b6 (.cells #[.int .i64 0, .int .i64 0] 46))
                have Q6 := Aside0.mk (Q5.out.below B6.out)
                have O6 := Aside0.mk (blk_below O5.out B6.out)
                have o6 := blk_below O5.out b6
                have c6 := blk_below C5.out b6
                have p1 : w6.cell? ⟨wo.heap.size, 1, none⟩ = some (.int .i64 x.f1) := blk_cell o6 1
                have p2 : w6.cell? ⟨wo.heap.size, 2, none⟩ = some (.int .i64 x.f2) := blk_cell o6 2
                have p3 : w6.cell? ⟨wo.heap.size, 3, none⟩ = some (.int .i64 x.f3) := blk_cell o6 3
                have p4 : w6.cell? ⟨wo.heap.size, 4, none⟩ = some (.int .i64 x.f4) := blk_cell o6 4
                have r1 : w6.cell? ⟨w5.heap.size, 1, none⟩ = some (.int .i64 x.f2) := blk_cell c6 1
                have r2 : w6.cell? ⟨w5.heap.size, 2, none⟩ = some (.int .i64 x.f3) := blk_cell c6 2
                have r3 : w6.cell? ⟨w5.heap.size, 3, none⟩ = some (.int .i64 x.f4) := blk_cell c6 3
                have l6 := blk_lt o6
                have l6' := blk_lt c6
                clear b6 f2' o6 c6
                rw [show z46.f0 = 0 from rfl, show z46.f1 = 0 from rfl]
                go_wp2
                go_roundw
                case rel =>
                  refine ⟨j + 1, by go_num, by omega, ⟨Q6.out.congr (fun b => ?_)⟩, O6⟩
                  show ((Heap.place A' b).isSome || (decide (a ≤ b) && decide (b < a + j)) || b == a + j) = _
                  have : ((decide (a ≤ b) && decide (b < a + (j : Int))) || b == a + j) = (decide (a ≤ b) && decide (b < a + ((j + 1 : Nat) : Int))) := by
                    rw [Bool.eq_iff_iff]; simp; omega
                  rw [Bool.or_assoc, this]
                case measure => simp [intOf]; omega
              · have hje : (j : Int) = x.f2 := by omega
                have HJ := Aside0.mk hje
                clear hje
                go_wp2
                go_roundw
                case rel =>
                  refine ⟨k + 1, A2, by go_num, by omega, ⟨(HA.out.congr (fun b => ?_)).less (fun b hb => .inl hb) rfl⟩⟩
                  rw [HG.out.isSome b, ← HJ.out]
                case measure => simp [intOf]; omega
        · have hd1 : (x.f0 == 1) = false := beq_eq_false_iff_ne.2 h1
          have hd2 : (x.f0 != 1) = true := by rw [bne_iff_ne]; exact h1
          clear h1
          go_wp2
          go_roundw
          case rel => exact ⟨k + 1, A', by go_num, by omega, ⟨HK.out.below (below_alloc (Below.refl _ _) _)⟩⟩
          case measure => simp [intOf]; omega
      · go_wp2
        go_loopw [17] (fun i wr => ∃ (q : Nat), i = .int .i64 q ∧ q ≤ 300 ∧ Aside0 (ARel (fun b => b = w2.heap.size) w1.heap.size w2.heap.size w1 wr A' (fun a => (Heap.place A' a).isSome))) (fun i _ => 300 - (intOf i).toNat)
        case atStart => exact ⟨0, rfl, by omega, HK⟩
        case round =>
          obtain ⟨q, rfl, hq, HL⟩ := hrel
          obtain ⟨F3, f3⟩ := HL.out
          have f3' := Aside0.mk f3
          have bel := f3.bel
          have BL := Aside0.mk bel
          clear f3 bel
          by_cases hq3 : q < 300
          · go_wp2_with fail
            refine (load_any f3'.out.hr q (by omega)).mono ?_
            rintro e w7 ⟨rfl, b7⟩
            have hsome : (load A' (q : Int)).2 = (Heap.place A' (q : Int)).isSome := by
              unfold load
              cases Heap.place A' (q : Int) with
              | none => rfl
              | some tk => rfl
            rw [hsome]
            obtain ⟨y, hy⟩ : ∃ y, (load A' (q : Int)).1 = y := ⟨_, rfl⟩
            rw [hy]
            have h7 := (blk_cell (blk_below f3'.out.seen b7) q)
            have h8 := seen_at (fun a => (Heap.place A' a).isSome) (q : Int) (by omega) (by omega)
            rw [Int.toNat_natCast] at h8
            have h9 := h7.trans h8
            have H7 := Aside0.mk (HL.out.below (below_alloc b7 (.cells #[.int .i64 y.f0, .int .i64 y.f1] 46)))
            have l7 := blk_lt (blk_below f3'.out.seen b7)
            clear b7 hsome hy h7 h8 f3'
            obtain ⟨pb, hpb⟩ : ∃ pb, (Heap.place A' (q : Int)).isSome = pb := ⟨_, rfl⟩
            rw [hpb] at h9 ⊢
            clear hpb
            cases pb with
            | true =>
              simp only [if_true] at h9
              go_wp2
              go_roundw
              case rel => exact ⟨q + 1, by go_num, by omega, H7⟩
              case measure => simp [intOf]; omega
            | false =>
              simp only [Bool.false_eq_true, if_false] at h9
              go_wp2
              go_roundw
              case rel => exact ⟨q + 1, by go_num, by omega, H7⟩
              case measure => simp [intOf]; omega
          · go_wp2
            go_ret
            exact ⟨rfl, below_then B1.out s1 BL.out⟩
end Go.Proofs.Ytogjcogejfidbaa.Heap
