import Derived.Test.YtdildjgkjmoihaaA
namespace Go.Proofs.Ytdildjgkjmoihaa.Latch
open Go.RowKit Go.Proofs.YtdildjgkjmoihaaW.PrintWords Go.Proofs.YtdildjgkjmoihaaW.PrintLast Go.Proofs.YtdildjgkjmoihaaW.PrintMore Go.Proofs.Ytdildjgkjmoihaa.PLatchSteps
set_option linter.unusedVariables false
set_option linter.unusedSimpArgs false

def takes (xs : List Int) (l t : Int) : Bool := decide (0 ≤ t) && turns xs l (-1)
def drops (xs : List Int) (l t : Int) : Bool := decide (0 ≤ t) && turns xs l t
def take_ (xs : List Int) (l t : Int) : List Int := if takes xs l t then xs.set l.toNat t else xs
def drop_ (xs : List Int) (l t : Int) : List Int := if drops xs l t then xs.set l.toNat (-1) else xs

theorem turned {w : World} {hb ab : Nat} {xs : List Int} (h : TB w hb ab xs) (c : Bool) (l b : Int) :
    TB (if c then w.setCell ⟨ab, l.toNat, none⟩ (.int .i64 b) else w) hb ab (if c then xs.set l.toNat b else xs) ∧ Foot (fun k => k = ab) w (if c then w.setCell ⟨ab, l.toNat, none⟩ (.int .i64 b) else w) := by
  cases c with
  | true => exact ⟨h.put l b, (Foot.refl (fun k => k = ab) w).setCell (p := ⟨ab, l.toNat, none⟩) (fun _ => rfl) _⟩
  | false => exact ⟨h, Foot.refl _ _⟩

theorem take_any {w : World} {hb ab : Nat} {xs : List Int} (h : TB w hb ab xs) (l t : Int) :
    Calls Try.prog 10 #[.pointer (some ⟨hb, 0, none⟩), .int .i64 l, .int .i64 t] w fun e w' => e = .returned (.bool (takes xs l t)) ∧ TB w' hb ab (take_ xs l t) ∧ Foot (fun k => k = ab) w w' := by
  by_cases c : 0 ≤ t
  · have e1 : takes xs l t = turns xs l (-1) := by unfold takes; simp [c]
    unfold take_
    rw [e1]
    have H := Aside0.mk (turn_any h l (-1) t)
    have HT := Aside0.mk (turned h (turns xs l (-1)) l t)
    obtain ⟨b, hb⟩ : ∃ b, turns xs l (-1) = b := ⟨_, rfl⟩
    rw [hb] at H HT ⊢
    clear hb e1
    cases b
    all_goals
      go_enter Try.func10, Try.ntmps10
      go_wp2_with (go_at_call 24; refine H.out.mono ?_; rintro e w' ⟨rfl, rfl⟩)
      go_ret
      exact ⟨rfl, HT.out⟩
  · have e1 : takes xs l t = false := by unfold takes; simp [c]
    unfold take_
    rw [e1]
    go_enter Try.func10, Try.ntmps10
    go_wp2
    go_ret
    exact ⟨rfl, h, Foot.refl _ _⟩
theorem drop_any {w : World} {hb ab : Nat} {xs : List Int} (h : TB w hb ab xs) (l t : Int) :
    Calls Try.prog 12 #[.pointer (some ⟨hb, 0, none⟩), .int .i64 l, .int .i64 t] w fun e w' => e = .returned (.bool (drops xs l t)) ∧ TB w' hb ab (drop_ xs l t) ∧ Foot (fun k => k = ab) w w' := by
  by_cases c : 0 ≤ t
  · have e1 : drops xs l t = turns xs l t := by unfold drops; simp [c]
    unfold drop_
    rw [e1]
    have H := Aside0.mk (turn_any h l t (-1))
    have HT := Aside0.mk (turned h (turns xs l t) l (-1))
    obtain ⟨b, hb⟩ : ∃ b, turns xs l t = b := ⟨_, rfl⟩
    rw [hb] at H HT ⊢
    clear hb e1
    cases b
    all_goals
      go_enter Try.func12, Try.ntmps12
      go_wp2_with (go_at_call 24; refine H.out.mono ?_; rintro e w' ⟨rfl, rfl⟩)
      go_ret
      exact ⟨rfl, HT.out⟩
  · have e1 : drops xs l t = false := by unfold drops; simp [c]
    unfold drop_
    rw [e1]
    go_enter Try.func12, Try.ntmps12
    go_wp2
    go_ret
    exact ⟨rfl, h, Foot.refl _ _⟩

/-! ### Clone, All -/
theorem clone_some (ad : Addr) (n c : Nat) (xs : List Int) (w : World) (hr : Kd.C (Kd.int .i64) w (some ad) n xs) (hl : n ≤ 1000000) :
    Calls Try.prog 25 #[.slice (some ad) n c] w fun e w' => ∃ v, e = .returned v ∧ (Kd.int .i64).R 3 w' w.heap.size (fun _ => True) v xs ∧ Below w.heap.size w w' := by
  have he := fun W => Lib.run_eql_slice_nil (P := Try.prog) W 23 3 (some ad) n c 0 0 Try.underlying23
  have HR := Aside0.mk hr
  clear hr
  go_enter Try.func25, Try.ntmps25
  go_wp2_with (at_builtin; refine Kd.R_append_rows (Kd.int .i64) w.heap.size rfl (.tmp 5) (.tmp 6) 23 3 _ 8 rfl Try.underlying23 info3 rfl (by decide) (by decide) (.slice (some ⟨w.heap.size, 0, none⟩) 0 0) [] xs (some ad) n c (fun _ => True) (fun _ => False) rfl rfl (lit_nil (Kd.int .i64) 3 w w.heap.size (Nat.le_refl _)) (Kd.C_below HR.out (below_alloc (Below.refl _ _) _)) (fun x cs h => h) (fun _ h => h.elim) (fun _ _ => trivial) (below_alloc (Below.refl _ _) _) (by simp) (by simp; omega) ?_; intro v1 w1 hv1 hb1 hg1 hat1)
  have HV := Aside0.mk hv1
  clear hv1
  go_wp2
  go_ret
  exact ⟨_, rfl, HV.out, hb1⟩
theorem TB.C {w : World} {hb ab : Nat} {xs : List Int} (h : TB w hb ab xs) : Kd.C (Kd.int .i64) w (some ⟨ab, 0, none⟩) xs.length xs := by
  refine Kd.C_of_reads (d := (0 : Int)) (h1 := fun _ => rfl) ⟨rfl, by have := h.le8; omega, fun hn => ⟨_, rfl, fun j hj => ?_⟩⟩
  rw [add_plain, blk_cell h.abk, nums_get xs j hj]
  simp [rd]
theorem all_any {w : World} {hb ab : Nat} {xs : List Int} (h : TB w hb ab xs) :
    Calls Try.prog 20 #[.pointer (some ⟨hb, 0, none⟩)] w fun e w' => ∃ v, e = .returned v ∧ (Kd.int .i64).R 3 w' w.heap.size (fun _ => True) v xs ∧ Below w.heap.size w w' := by
  have h0 := h.c0
  have H := Aside0.mk (clone_some ⟨ab, 0, none⟩ xs.length xs.length xs w h.C (by have := h.le8; omega))
  go_enter Try.func20, Try.ntmps20
  go_wp2_with (go_at_call 25; refine H.out.mono ?_; rintro e w' ⟨v, rfl, hv, hb⟩; have HV := Aside0.mk hv; clear hv)
  go_ret
  exact ⟨_, rfl, HV.out, hb⟩

/-! ### Held -/
def held (xs : List Int) (t : Int) (n : Nat) : List Int := ((List.range n).filter fun (i : Nat) => decide (rd xs (i : Nat) = t ∧ rd xs (i : Nat) ≠ -1)).map fun (i : Nat) => (i : Int)
theorem held_succ (xs : List Int) (t : Int) (n : Nat) : held xs t (n + 1) = held xs t n ++ (if rd xs (n : Nat) = t ∧ rd xs (n : Nat) ≠ -1 then [(n : Int)] else []) := by
  unfold held
  rw [List.range_succ, List.filter_append, List.map_append]
  congr 1
  by_cases h : rd xs (n : Nat) = t ∧ rd xs (n : Nat) ≠ -1
  · rw [if_pos h, List.filter_cons_of_pos]
    · rfl
    · exact decide_eq_true h
  · rw [if_neg h, List.filter_cons_of_neg]
    · rfl
    · exact fun hd => h (of_decide_eq_true hd)
theorem held_len (xs : List Int) (t : Int) (n : Nat) : (held xs t n).length ≤ n := by
  unfold held
  rw [List.length_map]
  exact Nat.le_trans (List.length_filter_le _ _) (by simp)

theorem held_any {w : World} {hb ab : Nat} {xs : List Int} (h : TB w hb ab xs) (t : Int) :
    Calls Try.prog 18 #[.pointer (some ⟨hb, 0, none⟩), .int .i64 t] w fun e w' => ∃ v, e = .returned v ∧ (Kd.int .i64).R 3 w' w.heap.size (fun _ => True) v (held xs t xs.length) ∧ Below w.heap.size w w' := by
  have h0 := h.c0
  have hl8 := h.le8
  have H := Aside0.mk h
  clear h
  go_enter Try.func18, Try.ntmps18
  go_wp2
  go_loopw [5, 13] (fun v i wr => ∃ (k : Nat), i = .int .i64 k ∧ k ≤ xs.length ∧ Aside0 ((Kd.int .i64).R 3 wr w.heap.size (fun _ => True) v (held xs t k)) ∧ Below w.heap.size w wr) (fun _ i _ => xs.length - (intOf i).toNat)
  case atStart => exact ⟨0, rfl, Nat.zero_le _, ⟨Kd.R_nil _ _ _ _ _⟩, Below.refl _ _⟩
  case round =>
    obtain ⟨k, rfl, hk, HV, HB⟩ := hrel
    rename_i v
    obtain ⟨A, c, rfl, hlc, _⟩ := Kd.R_reads HV.out
    have hll := held_len xs t k
    by_cases hlt : k < xs.length
    · obtain ⟨k0, _⟩ := (H.out.below HB).at_ k (by omega) (by omega)
      rw [Int.toNat_natCast] at k0
      obtain ⟨y, hy⟩ : ∃ y, rd xs (k : Nat) = y := ⟨_, rfl⟩
      have hs := held_succ xs t k
      rw [hy] at hs k0
      clear hy
      have hsz := HB.size
      have HB' := Aside0.mk HB
      clear HB
      by_cases c1 : y = t
      · subst c1
        by_cases c2 : y = -1
        · have d2 : (y != -1) = false := by rw [bne_eq_false_iff_eq]; exact c2
          rw [if_neg (by simp [c2]), List.append_nil] at hs
          have HS := Aside0.mk hs
          clear hs c2
          go_wp2
          go_roundw
          case rel => exact ⟨k + 1, by go_num, by omega, by rw [HS.out]; exact HV, HB'.out⟩
          case measure => simp [intOf]; omega
        · have d2 : (y != -1) = true := by rw [bne_iff_ne]; exact c2
          rw [if_pos ⟨rfl, c2⟩] at hs
          have HS := Aside0.mk hs
          clear hs c2
          go_wp2_with (at_builtin; go_loud (refine Kd.R_append (Kd.int .i64) w.heap.size rfl (.tmp 25) (.tmp 27) 23 3 _ 8 rfl Try.underlying23 info3 rfl (by decide) (by decide) (.slice A (held xs y k).length c) (held xs y k) (k : Int) [.int .i64 k] (fun _ => True) (fun _ => False) rfl rfl rfl (fun _ h => h.elim) (fun _ _ => trivial) HV.out HB'.out hsz (by omega) ?_; intro v1 w1 hv1 hb1 hg1 hat1))
          have HV1 := Aside0.mk hv1
          have HB1 := Aside0.mk hb1
          clear hv1 hb1 hg1 hat1
          go_wp2
          go_roundw
          case rel => exact ⟨k + 1, by go_num, by omega, by rw [HS.out]; exact HV1, HB1.out⟩
          case measure => simp [intOf]; omega
      · have d1 : (y == t) = false := beq_eq_false_iff_ne.2 c1
        rw [if_neg (by simp [c1]), List.append_nil] at hs
        have HS := Aside0.mk hs
        clear hs c1
        go_wp2
        go_roundw
        case rel => exact ⟨k + 1, by go_num, by omega, by rw [HS.out]; exact HV, HB'.out⟩
        case measure => simp [intOf]; omega
    · obtain rfl : k = xs.length := by omega
      have HB' := Aside0.mk HB
      clear HB
      go_wp2
      go_ret
      exact ⟨_, rfl, HV.out, HB'.out⟩
end Go.Proofs.Ytdildjgkjmoihaa.Latch
