import Derived.Test.YtdildjgkjmoihaaB
import Derived.Deep.RegionLaw
namespace Go.Proofs.Ytdildjgkjmoihaa.Latch
open Go.RowKit Go.Proofs.YtdildjgkjmoihaaW.PrintWords Go.Proofs.YtdildjgkjmoihaaW.PrintLast Go.Proofs.YtdildjgkjmoihaaW.PrintMore Go.Proofs.Ytdildjgkjmoihaa.PLatchSteps
set_option linter.unusedVariables false
set_option linter.unusedSimpArgs false

theorem mul_small (m : Nat) (hm : m ≤ 8) (w : World) :
    Calls Try.prog 26 #[.int .u64 1, .int .u64 m] w fun e w' => e = .returned (.tuple #[.int .u64 0, .int .u64 m]) ∧ w = w' := by
  have h64 : Calls Try.prog 28 #[.int .u64 1, .int .u64 m] w fun e w' => e = .returned (.tuple #[.int .u64 0, .int .u64 m]) ∧ w = w' := by
    have : m = 0 ∨ m = 1 ∨ m = 2 ∨ m = 3 ∨ m = 4 ∨ m = 5 ∨ m = 6 ∨ m = 7 ∨ m = 8 := by omega
    rcases this with rfl | rfl | rfl | rfl | rfl | rfl | rfl | rfl | rfl
    all_goals
      go_enter Try.func28, Try.ntmps28
      go_wp2
      go_ret2
      exact ⟨rfl, rfl⟩
  have H := Aside0.mk h64
  clear h64
  go_enter Try.func26, Try.ntmps26
  go_wp2_with (go_at_call 28; refine H.out.mono ?_; rintro e w' ⟨rfl, rfl⟩)
  go_ret2
  exact ⟨rfl, rfl⟩

def filled (m n : Nat) : List Value := nums .i64 (List.replicate n (-1) ++ List.replicate (m - n) 0)
theorem filled_len (m n : Nat) (h : n ≤ m) : (filled m n).length = m := by simp [filled, nums]; omega
theorem filled_zero (m : Nat) : filled m 0 = (madeCells #[Value.int .i64 0] m).toList := by
  apply List.ext_getElem
  · simp [filled, nums, madeCells]
  · intro i h1 h2
    simp [filled, nums, madeCells, Nat.mod_one]
theorem filled_get (m n j : Nat) (h : j < n) (hn : n ≤ m) : (filled m n)[j]? = some (.int .i64 (-1)) := by
  unfold filled nums
  rw [List.getElem?_map, List.getElem?_append_left (by simpa using h), List.getElem?_replicate, if_pos h]
  rfl
theorem filled_splice (m n q : Nat) (h : n + q ≤ m) : splice (filled m n) n (List.replicate q (.int .i64 (-1))) = filled m (n + q) := by
  unfold splice filled nums
  rw [List.map_append, List.map_append, List.map_replicate, List.map_replicate, List.map_replicate, List.map_replicate, List.length_replicate]
  rw [List.take_append_of_le_length (by simp), List.take_of_length_le (by simp), List.drop_append, List.drop_eq_nil_of_le (by simp), List.nil_append, List.drop_replicate, ← List.append_assoc, List.replicate_append_replicate]
  congr 2
  simp
  omega

set_option maxHeartbeats 1000000 in
theorem repeat_any (xb m : Nat) (hm : m ≤ 8) (w : World) (hx : w.heap[xb]? = some (.cells #[.int .i64 (-1)] 3 (0, 0))) :
    Calls Try.prog 23 #[.slice (some ⟨xb, 0, none⟩) 1 1, .int .i64 m] w fun e w' => e = .returned (.slice (some ⟨w.heap.size, 0, none⟩) m m) ∧ w'.heap[w.heap.size]? = some (.cells (filled m m).toArray 3 (0, 0)) ∧ Below w.heap.size w w' := by
  have HM := Aside0.mk (mul_small m hm w)
  have hk := print_make (P := Try.prog) 23 3 .i64 8 Try.underlying23 info3 (by decide) m (by omega)
  have hxl := blk_lt hx
  have HX := Aside0.mk hx
  clear hx
  go_enter Try.func23, Try.ntmps23
  go_wp2_with fail
  refine HM.out.mono ?_
  rintro e w' ⟨rfl, rfl⟩
  have e0 := filled_zero m
  have hmn := blk_new w (.cells (madeCells #[Value.int .i64 0] m) 3)
  have hmn' : (w.alloc (.cells (madeCells #[Value.int .i64 0] m) 3)).heap[w.heap.size]? = some (.cells (filled m 0).toArray 3 (0, 0)) := by rw [hmn, e0]
  have HN := Aside0.mk hmn'
  have HXA := Aside0.mk (blk_alloc HX.out (.cells (madeCells #[Value.int .i64 0] m) 3))
  have HB0 := Aside0.mk (below_alloc (Below.refl w.heap.size w) (.cells (madeCells #[Value.int .i64 0] m) 3))
  have hc1 : ∀ j v, (List.replicate (min 1 m) (Value.int .i64 (-1)))[j]? = some v → (w.alloc (.cells (madeCells #[Value.int .i64 0] m) 3)).cell? ((⟨xb, 0, none⟩ : Addr).add j) = some v := by
    intro j v hj
    rw [add_plain, blk_cell HXA.out]
    have h1 := (List.getElem?_eq_some_iff.1 hj).1
    have h2 := List.eq_of_mem_replicate (List.mem_of_getElem? hj)
    rw [List.length_replicate] at h1
    obtain rfl : j = 0 := by omega
    rw [h2]
    rfl
  have HC1 := Aside0.mk hc1
  clear hmn hmn' e0 hc1
  go_wp2_with (refine gate_builtin (b := .copy) (xs := #[.tmp 31, .tmp 32]) rfl ?_; go_loud (refine wpList_copy_splice rfl (.tmp 31) (.tmp 32) 23 23 rfl 3 Try.underlying23 (by kernel_rfl) (some ⟨w.heap.size, 0, none⟩) (some ⟨xb, 0, none⟩) m m 1 1 rfl rfl w.heap.size 0 (filled m 0) 3 HN.out (List.replicate (min 1 m) (.int .i64 (-1))) (by simp) (fun _ => ⟨rfl, _, rfl, HC1.out⟩) (by rw [filled_len m 0 (by omega)]; simp; omega) (by intro v hv; rw [List.eq_of_mem_replicate hv]; rfl) w.heap.size w HB0.out (Nat.le_refl _) ?c2))
  case c2 =>
    intro w2 h2 b2
    have H2 : Aside0 (w2.heap[w.heap.size]? = some (.cells (filled m (min 1 m)).toArray 3 (0, 0))) := ⟨by
      have := h2.out
      rwa [filled_splice m 0 (min 1 m) (by omega), Nat.zero_add] at this⟩
    have B2 := Aside0.mk b2
    clear h2 b2
    obtain ⟨q, hq⟩ : ∃ q, min 1 m = q := ⟨_, rfl⟩
    rw [hq] at H2 ⊢
    have hq' : q ≤ m ∧ (q = 0 → m = 0) := by omega
    clear hq
    go_wp2
    have s2 := B2.out.size
    have HQ0 := Aside0.mk hq'
    clear hq'
    go_loopw [8] (fun n wr => ∃ q : Nat, n = .int .i64 q ∧ Aside0 (q ≤ m ∧ (q = 0 → m = 0)) ∧ Aside0 (wr.heap[w.heap.size]? = some (.cells (filled m q).toArray 3 (0, 0))) ∧ Aside0 (Below w.heap.size w wr)) (fun n _ => m - (intOf n).toNat)
    case atStart => exact ⟨q, rfl, HQ0, H2, B2⟩
    case round =>
      clear H2 B2 HQ0
      obtain ⟨r, rfl, HQ, HH, HB⟩ := hrel
      obtain ⟨hr1, hr2⟩ := HQ.out
      clear hr2
      by_cases hlt : r < m
      · have hr0 : 0 < r := by rcases Nat.eq_zero_or_pos r with h | h; have := HQ.out.2 h; omega; exact h
        have hne : ¬ m = r := by omega
        go_wp2
        have hc2 : Aside0 (∀ j v, (List.replicate (min r (m - r)) (Value.int .i64 (-1)))[j]? = some v → wr.drew.cell? ((⟨w.heap.size, 0, none⟩ : Addr).add j) = some v) := ⟨by
          intro j v hj
          have h1 := (List.getElem?_eq_some_iff.1 hj).1
          have h2 := List.eq_of_mem_replicate (List.mem_of_getElem? hj)
          rw [List.length_replicate] at h1
          rw [add_plain, h2]
          show wr.cell? _ = _
          rw [blk_cell HH.out]
          have := filled_get m r j (by omega) (by omega)
          simpa using this⟩
        have hc3 : Aside0 ((wr.drew).heap[w.heap.size]? = some (.cells (filled m r).toArray 3 (0, 0))) := ⟨HH.out⟩
        have hc4 : Aside0 (r + (List.replicate (min r (m - r)) (Value.int .i64 (-1))).length ≤ (filled m r).length) := ⟨by rw [filled_len m r (by omega)]; simp; omega⟩
        have hc5 : Aside0 (∀ v ∈ List.replicate (min r (m - r)) (Value.int .i64 (-1)), v.oneCell' = true) := ⟨by intro v hv; rw [List.eq_of_mem_replicate hv]; rfl⟩
        have hc6 : Aside0 ((List.replicate (min r (m - r)) (Value.int .i64 (-1))).length = Nat.min r (m - r)) := ⟨by simp⟩
        have hc7 : Aside0 ((Try.prog.info? 3).map (·.size) = some 1) := ⟨by kernel_rfl⟩
        go_region_law (refine step_copy_splice (o := ⟨some 45, _, _, _, _, _⟩) rfl (.tmp 41) (.tmp 44) 23 23 rfl 3 Try.underlying23 hc7.out (some ⟨w.heap.size, r, none⟩) (some ⟨w.heap.size, 0, none⟩) (m - r) (m - r) r m (by simp [Act.eval, Act.put]) (by simp [Act.eval, Act.put]) w.heap.size r (filled m r) 3 hc3.out (List.replicate (min r (m - r)) (.int .i64 (-1))) hc6.out (fun _ => ⟨rfl, _, rfl, hc2.out⟩) hc4.out hc5.out w.heap.size w HB.out.drew (Nat.le_refl _) ?_; intro w3 h3 b3)
        · simp only [Act.put, List.getElem_toArray, List.getElem_cons_succ, List.getElem_cons_zero, List.setIfInBounds_toArray, List.set_cons_succ, List.set_cons_zero]
          have H3 : Aside0 (w3.heap[w.heap.size]? = some (.cells (filled m (r + min r (m - r))).toArray 3 (0, 0))) := ⟨by
            have := h3.out
            rwa [filled_splice m r (min r (m - r)) (by omega)] at this⟩
          have B3 := Aside0.mk b3
          clear h3 b3 hc2
          obtain ⟨p, hp⟩ : ∃ p, min r (m - r) = p := ⟨_, rfl⟩
          rw [hp] at H3 ⊢
          have hp' : 0 < p ∧ r + p ≤ m := by omega
          obtain ⟨hp1, hp2⟩ := hp'
          rw [show IntKind.i64.wrap ((r : Int) + p) = ((r + p : Nat) : Int) from by rw [IntKind.wrap_i64]; omega]
          clear hp
          go_wp2
          go_roundw
          case rel => exact ⟨r + p, rfl, ⟨by omega, by omega⟩, H3, B3⟩
          case measure => simp [intOf]; omega
      · have : r = m := by omega
        subst this
        go_wp2
        go_ret
        exact ⟨rfl, HH.out, HB.out⟩
end Go.Proofs.Ytdildjgkjmoihaa.Latch
