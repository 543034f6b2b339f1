import Derived.Test.YtpbaebjohioijaaF
namespace Go.Proofs.Ytpbaebjohioijaa.Lat
open Go.RowKit Go.Proofs.YtpbaebjohioijaaW.PrintWords Go.Proofs.YtpbaebjohioijaaW.PrintLast Go.Proofs.YtpbaebjohioijaaW.PrintMore Go.Proofs.Ytpbaebjohioijaa.PSolveLeast
attribute [local go_sem] max2_int max_two
set_option linter.unusedVariables false
set_option linter.unusedSimpArgs false

theorem RI.drew {w : World} {b n k : Nat} {rk : List Int} (h : RI w b n k rk) : RI w.drew b n k rk := ⟨h.bk, h.len, h.bd⟩
theorem _root_.Go.Proofs.Ytpbaebjohioijaa.Foot.drew {S : Nat → Prop} {w w1 : World} (h : Foot S w w1) : Foot S w w1.drew := h.trans (T := S) (Foot.of_below (below_drew (Below.refl _ _))) (fun _ h _ => h)
set_option maxHeartbeats 2000000 in
set_option maxRecDepth 100000 in
theorem height_any {w : World} {hb ub db n : Nat} {us ds : List Int} (h : TO w hb ub db n us ds) (hn : 0 < n) {xs : List Int} (hx : chainF n ds n 0 = some xs) :
    Calls Try.prog 18 #[.pointer (some ⟨hb, 0, none⟩)] w fun e w' => e = .returned (.int .i64 (heightM n ds xs)) ∧ Below w.heap.size w w' := by
  have h8 := h.le8
  have HT := Aside0.mk h
  have HX := Aside0.mk hx
  have HS := Aside0.mk (size_any h)
  have hk := print_make (P := Try.prog) 26 3 .i64 8 Try.underlying26 info3 (by decide) n (by omega)
  clear h hx
  go_enter Try.func18, Try.ntmps18
  go_wp2_with fail
  refine HS.out.mono ?_
  rintro e w' ⟨rfl, rfl⟩
  go_wp2_with fail
  have b2 := below_alloc (Below.refl w.heap.size w) (.cells (madeCells #[Value.int .i64 0] n) 3)
  refine (chain_any (HT.out.below b2) HX.out).mono ?_
  rintro e w3 ⟨v, rfl, r3, b3⟩
  obtain ⟨A3, c3, hv3, hlc, hC3⟩ := Kd.R_reads r3
  rw [chainF_len HX.out] at hv3
  subst hv3
  have B3 : Aside0 (Below w.heap.size w w3) := ⟨below_then b2 b2.size b3⟩
  have I3 : Aside0 (RI w3 w.heap.size n 0 (List.replicate n 0)) := ⟨by
    have := RI.made w n
    exact ⟨blk_below this.bk b3, this.len, this.bd⟩⟩
  have CX : Aside0 (∀ wr, Foot (fun k => k = w.heap.size) w3 wr → Kd.C (Kd.int .i64) wr A3 n xs) := ⟨fun wr hf => by
    have r4 := R_foot (Kd.R_mono (Kd.R_bound r3) (ok' := fun k => w.heap.size < k) (fun k hk => by
      have := hk.2.1
      simp at this
      omega)) hf (fun k hk e => by omega)
    obtain ⟨A5, c5, e5, l5, C5⟩ := Kd.R_reads r4
    rw [chainF_len HX.out] at e5 C5
    simp only [Value.slice.injEq] at e5
    obtain ⟨rfl, _, _⟩ := e5
    exact C5⟩
  have TX : Aside0 (∀ wr, Foot (fun k => k = w.heap.size) w3 wr → TO wr hb ub db n us ds) := ⟨fun wr hf => by
    have l1 := blk_lt HT.out.hbk
    have l2 := blk_lt HT.out.u.bk
    have l3 := blk_lt HT.out.d.bk
    exact (HT.out.below B3.out).foot hf (by omega) (by omega) (by omega)⟩
  have BX : Aside0 (∀ wr, Foot (fun k => k = w.heap.size) w3 wr → Below w.heap.size w wr) := ⟨fun wr hf => B3.out.trans (hf.below B3.out.size (fun b hb => by omega))⟩
  obtain ⟨rb, hrb⟩ : ∃ rb, w.heap.size = rb := ⟨_, rfl⟩
  rw [hrb] at I3 CX TX BX ⊢
  have HRB := Aside0.mk hrb
  have HLT := Aside0.mk (chainF_lt HX.out)
  have HLN := Aside0.mk (chainF_len HX.out)
  clear hrb r3 b3 b2 hC3 hlc B3 HT hk HX HS
  go_wp2_with fail
  go_loopw [13] (fun i wr => ∃ k : Nat, i = .int .i64 k ∧ k ≤ n ∧ Aside0 (RI wr rb n k ((xs.take k).foldl (hOut n ds) (List.replicate n 0))) ∧ Aside0 (Foot (fun k => k = rb) w3 wr)) (fun i _ => n - (intOf i).toNat)
  case atStart => exact ⟨0, rfl, Nat.zero_le _, I3, ⟨Foot.refl _ _⟩⟩
  case round =>
    clear I3
    obtain ⟨k, rfl, hk, HI, HF⟩ := hrel
    obtain ⟨wo, rfl⟩ : ∃ wo : World, wo = wr := ⟨_, rfl⟩
    by_cases hlt : k < n
    · have FS := Aside0.mk (fold_take (hOut n ds) (List.replicate n 0) xs k (by rw [HLN.out]; exact hlt))
      obtain ⟨ad, eA, c0⟩ := Kd.at_int (CX.out wo HF.out) (k : Nat) (by omega) (by omega)
      subst eA
      rw [Int.toNat_natCast] at c0
      obtain ⟨l, hl⟩ : ∃ l, rd xs k = l := ⟨_, rfl⟩
      obtain ⟨hl0, hl1⟩ := HLT.out l (by rw [← hl]; exact rd_mem (by rw [HLN.out]; exact hlt))
      rw [hl] at c0 FS
      clear hl
      obtain ⟨ln, rfl⟩ := Int.eq_ofNat_of_zero_le hl0
      have hln : ln < n := by omega
      clear hl0 hl1
      obtain ⟨rk, hrk⟩ : ∃ rk, (xs.take k).foldl (hOut n ds) (List.replicate n 0) = rk := ⟨_, rfl⟩
      rw [hrk] at FS HI
      clear hrk
      have T1 := Aside0.mk (TX.out wo HF.out)
      have u0 := T1.out.c0
      go_wp2_with fail
      clear u0
      go_loopw [22] (fun i wr => ∃ b : Nat, i = .int .i64 b ∧ b ≤ n ∧ Aside0 (RI wr rb n k ((List.range b).foldl (hIn ds ln) rk)) ∧ Aside0 (Foot (fun k => k = rb) w3 wr)) (fun i _ => n - (intOf i).toNat)
      case atStart => exact ⟨0, rfl, Nat.zero_le _, HI, HF⟩
      case round =>
        obtain ⟨b, rfl, hb2, HI2, HF2⟩ := hrel
        obtain ⟨wi, rfl⟩ : ∃ wi : World, wi = wr := ⟨_, rfl⟩
        by_cases hbn : b < n
        · have GS : Aside0 ((List.range (b + 1)).foldl (hIn ds ln) rk = hIn ds ln ((List.range b).foldl (hIn ds ln) rk) b) := ⟨by rw [List.range_succ, List.foldl_append]; rfl⟩
          obtain ⟨r2, hr2⟩ : ∃ r2, (List.range b).foldl (hIn ds ln) rk = r2 := ⟨_, rfl⟩
          rw [hr2] at GS HI2
          clear hr2
          have T2 := Aside0.mk (TX.out wi HF2.out)
          have u1 := T2.out.c1
          obtain ⟨d0, _⟩ := T2.out.d.at_ ln hln
          have HH := Aside0.mk (has_any (rd ds ln) b (by omega) (by omega) wi)
          have GV : Aside0 (hIn ds ln r2 b = if decide ((b : Int) ≠ ln) && hasb (rd ds ln) b then r2.set ln (mx (rd r2 ln) (rd r2 b)) else r2) := ⟨rfl⟩
          obtain ⟨y, hy⟩ : ∃ y, rd ds ln = y := ⟨_, rfl⟩
          rw [hy] at d0 HH GV
          obtain ⟨t, ht⟩ : ∃ t, hasb y b = t := ⟨_, rfl⟩
          rw [ht] at HH GV
          clear hy ht
          by_cases hbl : b = ln
          · subst hbl
            have GW : Aside0 ((List.range (b + 1)).foldl (hIn ds b) rk = r2) := ⟨by rw [GS.out, GV.out]; simp⟩
            clear GS GV
            go_wp2_with fail
            go_roundw
            case rel => exact ⟨b + 1, by go_num, by omega, ⟨by rw [GW.out]; exact HI2.out⟩, HF2⟩
            case measure => simp [intOf]; omega
          · have e1 : ((b : Int) == (ln : Int)) = false := beq_eq_false_iff_ne.2 (by omega)
            have e2 : ¬ (b : Int) = ln := by omega
            cases t with
            | false =>
              have GW : Aside0 ((List.range (b + 1)).foldl (hIn ds ln) rk = r2) := ⟨by rw [GS.out, GV.out]; simp⟩
              clear GS GV
              go_wp2_with (go_at_call 34; refine HH.out.mono ?_; rintro e w' ⟨rfl, rfl⟩)
              go_roundw
              case rel => exact ⟨b + 1, by go_num, by omega, ⟨by rw [GW.out]; exact HI2.out⟩, HF2⟩
              case measure => simp [intOf]; omega
            | true =>
              have GW : Aside0 ((List.range (b + 1)).foldl (hIn ds ln) rk = r2.set ln (mx (rd r2 ln) (rd r2 b))) := ⟨by rw [GS.out, GV.out]; simp [e2]⟩
              clear GS GV
              obtain ⟨q1, q2, q3, q4⟩ := HI2.out.at_ ln hln
              obtain ⟨p1, p2, p3, p4⟩ := HI2.out.at_ b hbn
              obtain ⟨x, hx⟩ : ∃ x, rd r2 ln = x := ⟨_, rfl⟩
              obtain ⟨z, hz⟩ : ∃ x, rd r2 b = x := ⟨_, rfl⟩
              rw [hx] at q1 q3 q4 GW
              rw [hz] at p1 p3 p4 GW
              clear hx hz p2
              by_cases hxz : x < z
              · have hm : mx x z = z := if_pos hxz
                rw [hm] at GW
                clear hm
                have PP := Aside0.mk (RI.put HI2.out ln z k (Nat.le_refl _) ⟨p3, p4⟩)
                have PF := Aside0.mk (HF2.out.setCell (p := ⟨rb, ln, none⟩) (fun _ => rfl) (.int .i64 z))
                go_wp2_with (go_at_call 34; refine HH.out.mono ?_; rintro e w' ⟨rfl, rfl⟩)
                go_region
                all_goals (
                  go_wp2_with fail
                  go_roundw
                  case rel => exact ⟨b + 1, by go_num, by omega, ⟨by rw [GW.out]; exact PP.out.drew⟩, ⟨PF.out.drew⟩⟩
                  case measure => simp [intOf]; omega)
              · have hm : mx x z = x := if_neg hxz
                rw [hm] at GW
                clear hm
                have PP := Aside0.mk (RI.put HI2.out ln x k (Nat.le_refl _) ⟨q3, q4⟩)
                have PF := Aside0.mk (HF2.out.setCell (p := ⟨rb, ln, none⟩) (fun _ => rfl) (.int .i64 x))
                go_wp2_with (go_at_call 34; refine HH.out.mono ?_; rintro e w' ⟨rfl, rfl⟩)
                go_region
                all_goals (
                  go_wp2_with fail
                  go_roundw
                  case rel => exact ⟨b + 1, by go_num, by omega, ⟨by rw [GW.out]; exact PP.out.drew⟩, ⟨PF.out.drew⟩⟩
                  case measure => simp [intOf]; omega)
        · have GV : Aside0 (hOut n ds rk ln = ((List.range b).foldl (hIn ds ln) rk).set ln (rd ((List.range b).foldl (hIn ds ln) rk) ln + 1)) := ⟨by
            obtain rfl : b = n := by omega
            rfl⟩
          obtain ⟨r2, hr2⟩ : ∃ r2, (List.range b).foldl (hIn ds ln) rk = r2 := ⟨_, rfl⟩
          rw [hr2] at GV HI2
          clear hr2
          obtain ⟨q1, q2, q3, q4⟩ := HI2.out.at_ ln hln
          obtain ⟨x, hx⟩ : ∃ x, rd r2 ln = x := ⟨_, rfl⟩
          rw [hx] at q1 q3 q4 GV
          clear hx
          have PP := Aside0.mk (RI.put HI2.out ln (x + 1) (k + 1) (by omega) ⟨by omega, by omega⟩)
          have PF := Aside0.mk (HF2.out.setCell (p := ⟨rb, ln, none⟩) (fun _ => rfl) (.int .i64 (x + 1)))
          go_wp2_with fail
          go_roundw
          case rel => exact ⟨k + 1, by go_num, by omega, ⟨by rw [FS.out, GV.out]; exact PP.out⟩, PF⟩
          case measure => simp [intOf]; omega
    · have EQ : Aside0 (heightM n ds xs = maxM ((xs.take k).foldl (hOut n ds) (List.replicate n 0))) := ⟨by
        rw [List.take_of_length_le (by rw [HLN.out]; omega)]
        rfl⟩
      have HM := Aside0.mk (max_any (some ⟨rb, 0, none⟩) _ n n wo (HI.out.C h8) hn (by omega) HI.out.len)
      rw [← EQ.out] at HM
      go_wp2_with (go_at_call 42; refine HM.out.mono ?_; rintro e w' ⟨rfl, rfl⟩)
      go_ret
      exact ⟨rfl, by rw [HRB.out]; exact BX.out _ HF.out⟩
end Go.Proofs.Ytpbaebjohioijaa.Lat
