import Derived.Test.YtdildjgkjmoihaaC
namespace Go.Proofs.Ytdildjgkjmoihaa.Latch
open Go.RowKit Go.Proofs.YtdildjgkjmoihaaW.PrintWords Go.Proofs.YtdildjgkjmoihaaW.PrintLast Go.Proofs.YtdildjgkjmoihaaW.PrintMore Go.Proofs.Ytdildjgkjmoihaa.PLatchSteps
set_option linter.unusedVariables false
set_option linter.unusedSimpArgs false

theorem filled_all (m : Nat) : filled m m = nums .i64 (List.replicate m (-1)) := by simp [filled]
theorem new_at (n : Int) (m : Nat) (hm : (m : Int) = max 0 (min n 8)) (w : World) :
    Calls Try.prog 8 #[.int .i64 n] w fun e w' => ∃ hb ab, e = .returned (.pointer (some ⟨hb, 0, none⟩)) ∧ TB w' hb ab (List.replicate m (-1)) ∧ w.heap.size ≤ hb ∧ w.heap.size ≤ ab ∧ Below w.heap.size w w' := by
  have H := Aside0.mk (repeat_any w.heap.size m (by omega) (w.alloc (.cells #[.int .i64 (-1)] 3)) (blk_new _ _))
  have fin : ∀ w1 : World, w1.heap[(w.alloc (.cells #[.int .i64 (-1)] 3)).heap.size]? = some (.cells (filled m m).toArray 3 (0, 0)) → Below (w.alloc (.cells #[.int .i64 (-1)] 3)).heap.size (w.alloc (.cells #[.int .i64 (-1)] 3)) w1 →
      TB (w1.alloc (.cells #[.slice (some ⟨w.heap.size + 1, 0, none⟩) m m] 48)) w1.heap.size (w.heap.size + 1) (List.replicate m (-1)) ∧ w.heap.size ≤ w1.heap.size ∧ w.heap.size ≤ w.heap.size + 1 ∧ Below w.heap.size w (w1.alloc (.cells #[.slice (some ⟨w.heap.size + 1, 0, none⟩) m m] 48)) := by
    intro w1 h1 b1
    have hs := b1.size
    simp at hs h1
    have hb : Below w.heap.size w w1 := below_then (below_alloc (Below.refl _ _) _) (by simp) b1
    refine ⟨⟨?_, ?_, by simp; omega⟩, hb.size, by omega, below_alloc hb _⟩
    · rw [blk_new, List.length_replicate]
    · rw [← filled_all]
      exact blk_alloc h1 _
  have FIN := Aside0.mk fin
  clear fin
  have hm8 : m ≤ 8 := by omega
  by_cases h4 : 8 < n
  · obtain rfl : m = 8 := by omega
    clear hm
    go_enter Try.func8, Try.ntmps8
    go_wp2_with (go_at_call 23; refine H.out.mono ?_; rintro e w1 ⟨rfl, h1, b1⟩; have H1 := Aside0.mk h1; have B1 := Aside0.mk b1; clear h1 b1)
    go_ret
    exact ⟨_, _, by simp, FIN.out _ H1.out B1.out⟩
  · by_cases h0 : 0 < n
    · obtain rfl : n = m := by omega
      clear hm
      go_enter Try.func8, Try.ntmps8
      go_wp2_with (go_at_call 23; refine H.out.mono ?_; rintro e w1 ⟨rfl, h1, b1⟩; have H1 := Aside0.mk h1; have B1 := Aside0.mk b1; clear h1 b1)
      go_ret
      exact ⟨_, _, by simp, FIN.out _ H1.out B1.out⟩
    · obtain rfl : m = 0 := by omega
      clear hm
      go_enter Try.func8, Try.ntmps8
      go_wp2_with (go_at_call 23; refine H.out.mono ?_; rintro e w1 ⟨rfl, h1, b1⟩; have H1 := Aside0.mk h1; have B1 := Aside0.mk b1; clear h1 b1)
      go_ret
      exact ⟨_, _, by simp, FIN.out _ H1.out B1.out⟩

/-! ### Ring -/
def ringGo (xs ws : List Int) (first : Int) : Nat → List Int → Option (List Int)
  | 0, _ => none
  | f + 1, ring =>
    if holder xs (rd ws (rd ring ((ring.length : Int) - 1))) = first then some ring
    else if holder xs (rd ws (rd ring ((ring.length : Int) - 1))) < first ∨ (ws.length : Int) ≤ holder xs (rd ws (rd ring ((ring.length : Int) - 1))) then none
    else ringGo xs ws first f (ring ++ [holder xs (rd ws (rd ring ((ring.length : Int) - 1)))])
def ringAt (xs ws : List Int) (i : Nat) : Option (List Int) := ringGo xs ws i ws.length [(i : Int)]
def ring (xs ws : List Int) : List Int := ((List.range ws.length).findSome? (ringAt xs ws)).getD []
theorem ring_found {xs ws : List Int} {i : Nat} {r : List Int} (hi : i < ws.length) (hn : ∀ j, j < i → ringAt xs ws j = none) (hr : ringAt xs ws i = some r) : ring xs ws = r := by
  have key : ∀ n, i < n → (List.range n).findSome? (ringAt xs ws) = some r := by
    intro n
    induction n with
    | zero => intro h; omega
    | succ n ih =>
      intro h
      rw [List.range_succ, List.findSome?_append]
      rcases Nat.lt_or_ge i n with h1 | h1
      · rw [ih h1]; rfl
      · obtain rfl : i = n := by omega
        have : (List.range i).findSome? (ringAt xs ws) = none := by
          rw [List.findSome?_eq_none_iff]
          intro j hj
          exact hn j (List.mem_range.1 hj)
        rw [this]
        simp [hr]
  unfold ring
  rw [key _ hi]
  rfl
theorem ring_none {xs ws : List Int} (hn : ∀ j, j < ws.length → ringAt xs ws j = none) : ring xs ws = [] := by
  unfold ring
  have : (List.range ws.length).findSome? (ringAt xs ws) = none := by
    rw [List.findSome?_eq_none_iff]
    intro j hj
    exact hn j (List.mem_range.1 hj)
  rw [this]
  rfl

theorem rd_mem (xs : List Int) (i : Nat) (h : i < xs.length) : rd xs (i : Nat) ∈ xs := by
  unfold rd
  rw [Int.toNat_natCast, List.getD_eq_getElem?_getD, List.getElem?_eq_getElem h]
  exact List.getElem_mem h
theorem rd_last (xs : List Int) (y : Int) : rd (xs ++ [y]) (((xs ++ [y]).length : Int) - 1) = y := by
  unfold rd
  have : (((xs ++ [y]).length : Int) - 1).toNat = xs.length := by simp
  rw [this, List.getD_eq_getElem?_getD, List.getElem?_append_right (Nat.le_refl _), Nat.sub_self]
  rfl

set_option maxHeartbeats 1000000 in
theorem ring_any {w : World} {hb ab : Nat} {xs : List Int} (h : TB w hb ab xs) (A : Option Addr) (c : Nat) (ws : List Int) (hr : Kd.C (Kd.int .i64) w A ws.length ws) (hl : ws.length ≤ 1000000) :
    Calls Try.prog 21 #[.pointer (some ⟨hb, 0, none⟩), .slice A ws.length c] w fun e w' => ∃ v, e = .returned v ∧ (Kd.int .i64).R 3 w' w.heap.size (fun _ => True) v (ring xs ws) ∧ Below w.heap.size w w' := by
  have H := Aside0.mk h
  have HC := Aside0.mk hr
  clear h hr
  go_enter Try.func21, Try.ntmps21
  go_wp2
  go_loopw [10] (fun i wr => ∃ (k : Nat), i = .int .i64 k ∧ k ≤ ws.length ∧ Aside0 (∀ j, j < k → ringAt xs ws j = none) ∧ Aside0 (Below w.heap.size w wr)) (fun i _ => ws.length - (intOf i).toNat)
  case atStart => exact ⟨0, rfl, Nat.zero_le _, ⟨fun j hj => absurd hj (by omega)⟩, ⟨Below.refl _ _⟩⟩
  case round =>
    obtain ⟨k, rfl, hk, HN, HB⟩ := hrel
    obtain ⟨wo, rfl⟩ : ∃ wo : World, wo = wr := ⟨_, rfl⟩
    have hsz := HB.out.size
    by_cases hlt : k < ws.length
    · have hR1 : Aside0 ((Kd.int .i64).R 3 (wo.alloc (.cells #[.int .i64 k] 3)) w.heap.size (fun _ => True) (.slice (some ⟨wo.heap.size, 0, none⟩) 1 1) [(k : Int)]) := ⟨Kd.R_of_own (World.ownsRow_lit (base := w.heap.size) (e := 3) (size := 1) wo #[.int .i64 k] 1 hsz (by simp [maxLen]) rfl) (fun _ _ => trivial)⟩
      have HB1 := Aside0.mk (below_alloc HB.out (.cells #[.int .i64 k] 3))
      go_wp2
      go_loopw [6] (fun v wr => ∃ (rg : List Int) (y : Int) (f : Nat), Aside0 ((Kd.int .i64).R 3 wr w.heap.size (fun _ => True) v (rg ++ [y])) ∧ rg.length + 1 + f = ws.length + 1 ∧ 0 ≤ y ∧ y < ws.length ∧ Aside0 (ringAt xs ws k = ringGo xs ws k f (rg ++ [y])) ∧ Aside0 (Below w.heap.size w wr)) (fun v _ => match v with | .slice _ n _ => ws.length + 1 - n | _ => 0)
      case atStart => exact ⟨[], k, ws.length, hR1, by simp; omega, by omega, by omega, ⟨rfl⟩, HB1⟩
      case round =>
        obtain ⟨rg, y, f, HR, hf, hy0, hy1, HE, HB2⟩ := hrel
        clear hR1 HB1
        obtain ⟨A6, c6, hv6, hl6, _⟩ := Kd.R_reads HR.out
        have hlen : (rg ++ [y]).length = rg.length + 1 := by simp
        rw [hlen] at hv6 hl6
        subst hv6
        have hrl := rd_last rg y
        have hC6 := (Kd.R_reads' HR.out).2.2
        rw [hlen] at hC6 hrl
        have h6 := Kd.at_int hC6 (rg.length : Nat) (by omega) (by omega)
        have hrl2 : rd (rg ++ [y]) (rg.length : Nat) = y := by
          have e : ((rg.length + 1 : Nat) : Int) - 1 = (rg.length : Nat) := by omega
          rw [e] at hrl
          exact hrl
        rw [hrl2] at h6
        obtain ⟨ad6, e6, k6⟩ := h6
        subst e6
        rw [Int.toNat_natCast] at k6
        obtain ⟨ad, eA, k1⟩ := Kd.at_int (Kd.C_below HC.out HB2.out) y hy0 hy1
        subst eA
        have HOLD := Aside0.mk (holder_any (H.out.below HB2.out) (rd ws y))
        have HHL := Aside0.mk hlen
        clear hC6 hrl hrl2 hlen
        have hsz2 := HB2.out.size
        cases f with
        | zero =>
          have hgt : ¬ (rg.length + 1 ≤ ws.length) := by omega
          have HNX : Aside0 (∀ j, j < k + 1 → ringAt xs ws j = none) := ⟨fun j hj => by
            rcases Nat.lt_or_ge j k with h | h
            · exact HN.out j h
            · obtain rfl : j = k := by omega
              rw [HE.out]; rfl⟩
          clear k6 k1
          go_wp2
          go_roundw
          case rel => exact ⟨k + 1, by go_num, by omega, HNX, HB2⟩
          case measure => simp [intOf]; omega
        | succ f =>
          have hle : rg.length + 1 ≤ ws.length := by omega
          obtain ⟨u, hu⟩ : ∃ u, rd ws y = u := ⟨_, rfl⟩
          have hgo : ringGo xs ws k (f + 1) (rg ++ [y]) = if holder xs u = k then some (rg ++ [y]) else if holder xs u < k ∨ (ws.length : Int) ≤ holder xs u then none else ringGo xs ws k f (rg ++ [y] ++ [holder xs u]) := by
            rw [ringGo, rd_last, hu]
          rw [hu] at k1 HOLD
          obtain ⟨z, hz⟩ : ∃ z, holder xs u = z := ⟨_, rfl⟩
          rw [hz] at hgo HOLD
          have HGO := Aside0.mk (HE.out.trans hgo)
          clear hgo hz hu
          by_cases c1 : z = k
          · have HFIN : Aside0 (ring xs ws = rg ++ [y]) := ⟨ring_found hlt HN.out (by rw [HGO.out, if_pos c1])⟩
            have d1 : (z == (k : Int)) = true := beq_iff_eq.2 c1
            clear c1
            go_wp2_with (go_at_call 15; refine HOLD.out.mono ?_; rintro e w' ⟨rfl, rfl⟩)
            go_ret
            exact ⟨_, rfl, by rw [HFIN.out]; exact HR.out, HB2.out⟩
          · have d1 : (z == (k : Int)) = false := beq_eq_false_iff_ne.2 c1
            by_cases c2 : z < k ∨ (ws.length : Int) ≤ z
            · have HNX : Aside0 (∀ j, j < k + 1 → ringAt xs ws j = none) := ⟨fun j hj => by
                rcases Nat.lt_or_ge j k with h | h
                · exact HN.out j h
                · obtain rfl : j = k := by omega
                  rw [HGO.out, if_neg c1, if_pos c2]⟩
              have c2' : z < k ∨ (¬ z < k ∧ (ws.length : Int) ≤ z) := by omega
              clear c1 c2
              rcases c2' with c3 | ⟨c3, c4⟩
              all_goals
                go_wp2_with (go_at_call 15; refine HOLD.out.mono ?_; rintro e w' ⟨rfl, rfl⟩)
                go_roundw
                case rel => exact ⟨k + 1, by go_num, by omega, HNX, HB2⟩
                case measure => simp [intOf]; omega
            · have HG2 : Aside0 (ringAt xs ws k = ringGo xs ws k f (rg ++ [y] ++ [z])) := ⟨by rw [HGO.out, if_neg c1, if_neg c2]⟩
              have c3 : ¬ z < k := by omega
              have c4 : ¬ (ws.length : Int) ≤ z := by omega
              clear c1 c2
              go_wp2_with (first
                | (go_at_call 15; refine HOLD.out.mono ?_; rintro e w' ⟨rfl, rfl⟩)
                | (at_builtin; go_loud (refine Kd.R_append (Kd.int .i64) w.heap.size rfl (.tmp 44) (.tmp 46) 23 3 _ 8 rfl Try.underlying23 info3 rfl (by decide) (by decide) (.slice (some ad6) (rg.length + 1) c6) (rg ++ [y]) z [.int .i64 z] (fun _ => True) (fun _ => False) rfl rfl rfl (fun _ h => h.elim) (fun _ _ => trivial) HR.out HB2.out hsz2 (by rw [HHL.out]; omega) ?_; intro v1 w1 hv1 hb1 hg1 hat1)))
              have HV1 := Aside0.mk hv1
              have HB3 := Aside0.mk hb1
              obtain ⟨A7, c7, hv7, _, _⟩ := Kd.R_reads hv1
              have hl7 : (rg ++ [y] ++ [z]).length = rg.length + 2 := by simp
              rw [hl7] at hv7
              clear hv1 hb1 hg1 hat1
              subst hv7
              go_wp2
              go_roundw
              case rel => exact ⟨rg ++ [y], z, f, HV1, by simp; omega, by omega, by omega, HG2, HB3⟩
              case measure => simp; omega
    · have HFIN : Aside0 (ring xs ws = []) := ⟨ring_none (fun j hj => HN.out j (by omega))⟩
      go_wp2
      go_ret
      exact ⟨_, rfl, by rw [HFIN.out]; exact Kd.R_nil _ _ _ _ _, HB.out⟩
end Go.Proofs.Ytdildjgkjmoihaa.Latch
