import Derived.Test.YtpbaebjohioijaaB
namespace Go.Proofs.Ytpbaebjohioijaa.Lat
open Go.RowKit Go.Proofs.YtpbaebjohioijaaW.PrintWords Go.Proofs.YtpbaebjohioijaaW.PrintLast Go.Proofs.YtpbaebjohioijaaW.PrintMore Go.Proofs.Ytpbaebjohioijaa.PSolveLeast
set_option linter.unusedVariables false
set_option linter.unusedSimpArgs false

/-! ### right -/
def badP (us ds : List Int) (a b : Nat) : Bool := decide (a ≠ b) && (Go.bits .and .u64 (Go.bits .and .u64 (rd us a) (rd ds a)) (2 ^ b) != 0)
def okP (us ds : List Int) (a b : Nat) : Bool := !badP us ds a b && ((ext (Go.bits .and .u64 (rd us a) (rd us b)) us).2 && (ext (Go.bits .and .u64 (rd ds a) (rd ds b)) ds).2)
def rightb (n : Nat) (us ds : List Int) : Bool := (List.range n).all fun a => (List.range n).all fun b => okP us ds a b
theorem right_bad {n : Nat} {us ds : List Int} {a b : Nat} (ha : a < n) (hb : b < n) (h : okP us ds a b = false) : rightb n us ds = false := by
  rw [← Bool.not_eq_true]
  intro e
  rw [rightb, List.all_eq_true] at e
  have := e a (List.mem_range.2 ha)
  rw [List.all_eq_true] at this
  rw [this b (List.mem_range.2 hb)] at h
  cases h
theorem right_good {n : Nat} {us ds : List Int} (h : ∀ a < n, ∀ b < n, okP us ds a b = true) : rightb n us ds = true := by
  rw [rightb, List.all_eq_true]
  intro a ha
  rw [List.all_eq_true]
  intro b hb
  exact h a (List.mem_range.1 ha) b (List.mem_range.1 hb)
theorem TO.drawn {w w' : World} {hb ub db n : Nat} {us ds : List Int} (h : TO w hb ub db n us ds) (d : Drawn0 w w') : TO w' hb ub db n us ds := h.below d.below
theorem RB.drewN {w : World} {b n : Nat} {xs : List Int} (h : RB w b n xs) (m : Nat) : RB (w.drewN m) b n xs := ⟨h.bk, h.len⟩
set_option maxHeartbeats 2000000 in
set_option maxRecDepth 100000 in
theorem right_any {w : World} {hb ub db n : Nat} {us ds : List Int} (h : TO w hb ub db n us ds) :
    Calls Try.prog 38 #[.pointer (some ⟨hb, 0, none⟩)] w fun e w' => e = .returned (.bool (rightb n us ds)) ∧ Drawn0 w w' := by
  have h8 := h.le8
  have HT := Aside0.mk h
  have c0 := h.c0
  clear h
  go_enter Try.func38, Try.ntmps38
  go_wp2
  clear c0
  go_loopw [14] (fun i wr => ∃ k : Nat, i = .int .i64 k ∧ k ≤ n ∧ Aside0 (∀ a < k, ∀ b < n, okP us ds a b = true) ∧ Aside0 (Drawn0 w wr)) (fun i _ => n - (intOf i).toNat)
  case atStart => exact ⟨0, rfl, Nat.zero_le _, ⟨fun j hj => absurd hj (Nat.not_lt_zero j)⟩, ⟨Drawn0.refl _⟩⟩
  case round =>
    obtain ⟨k, rfl, hk, H0, D0⟩ := hrel
    by_cases hlt : k < n
    · obtain ⟨wo, rfl⟩ : ∃ wo : World, wo = wr := ⟨_, rfl⟩
      have T1 := Aside0.mk (HT.out.drawn D0.out)
      have c0 := T1.out.c0
      go_wp2
      clear c0
      go_loopw [22] (fun i wr => ∃ j : Nat, i = .int .i64 j ∧ j ≤ n ∧ Aside0 (∀ b < j, okP us ds k b = true) ∧ Aside0 (Drawn0 w wr)) (fun i _ => n - (intOf i).toNat)
      case atStart => exact ⟨0, rfl, Nat.zero_le _, ⟨fun j hj => absurd hj (Nat.not_lt_zero j)⟩, D0⟩
      case round =>
        obtain ⟨j, rfl, hj, H1, D1⟩ := hrel
        by_cases hlj : j < n
        · obtain ⟨wi, rfl⟩ : ∃ wi : World, wi = wr := ⟨_, rfl⟩
          have T2 := Aside0.mk (HT.out.drawn D1.out)
          have c0 := T2.out.c0
          have c1 := T2.out.c1
          obtain ⟨u0, _⟩ := T2.out.u.at_ k hlt
          obtain ⟨u1, _⟩ := T2.out.u.at_ j hlj
          obtain ⟨d0, _⟩ := T2.out.d.at_ k hlt
          obtain ⟨d1, _⟩ := T2.out.d.at_ j hlj
          have EU : Aside0 (∀ o W, Drawn0 wi W → Calls Try.prog 54 #[.int .u64 o, .slice (some ⟨ub, 0, none⟩) n n] W fun e w' => e = .returned (.tuple #[.int .i64 (ext o us).1, .bool (ext o us).2]) ∧ w' = W) := ⟨fun o W d => (extreme_any o (T2.out.u.below d.below) h8).mono (fun _ _ h => ⟨h.1, h.2.symm⟩)⟩
          have ED : Aside0 (∀ o W, Drawn0 wi W → Calls Try.prog 54 #[.int .u64 o, .slice (some ⟨db, 0, none⟩) n n] W fun e w' => e = .returned (.tuple #[.int .i64 (ext o ds).1, .bool (ext o ds).2]) ∧ w' = W) := ⟨fun o W d => (extreme_any o (T2.out.d.below d.below) h8).mono (fun _ _ h => ⟨h.1, h.2.symm⟩)⟩
          have H33 : Aside0 (∀ W, Drawn0 wi W → Calls Try.prog 37 #[.int .i64 j] W fun e w' => e = .returned (.int .u64 (2 ^ j)) ∧ w' = W) := ⟨fun W d => (one_any j (by omega) (by omega) _).mono (fun _ _ h => ⟨h.1, h.2.symm⟩)⟩
          have OK : Aside0 (okP us ds k j = (!(decide (k ≠ j) && (Go.bits .and .u64 (Go.bits .and .u64 (rd us k) (rd ds k)) (2 ^ j) != 0)) && ((ext (Go.bits .and .u64 (rd us k) (rd us j)) us).2 && (ext (Go.bits .and .u64 (rd ds k) (rd ds j)) ds).2))) := ⟨rfl⟩
          obtain ⟨x, hx⟩ : ∃ x : Int, 2 ^ j = x := ⟨_, rfl⟩
          rw [hx] at H33 OK
          obtain ⟨y1, hy1⟩ : ∃ y, rd us k = y := ⟨_, rfl⟩
          obtain ⟨y2, hy2⟩ : ∃ y, rd ds k = y := ⟨_, rfl⟩
          obtain ⟨y3, hy3⟩ : ∃ y, rd us j = y := ⟨_, rfl⟩
          obtain ⟨y4, hy4⟩ : ∃ y, rd ds j = y := ⟨_, rfl⟩
          rw [hy1] at u0 OK
          rw [hy2] at d0 OK
          rw [hy3] at u1 OK
          rw [hy4] at d1 OK
          have HY : Aside0 (k = j → y1 = y3 ∧ y2 = y4) := ⟨fun e => by subst e; exact ⟨hy1.symm.trans hy3, hy2.symm.trans hy4⟩⟩
          clear hx hy1 hy2 hy3 hy4
          obtain ⟨z0, hz0⟩ : ∃ z, Go.bits .and .u64 y1 y2 = z := ⟨_, rfl⟩
          obtain ⟨z, hz⟩ : ∃ t, Go.bits .and .u64 z0 x = t := ⟨_, rfl⟩
          obtain ⟨za, hza⟩ : ∃ z, Go.bits .and .u64 y1 y3 = z := ⟨_, rfl⟩
          obtain ⟨zb, hzb⟩ : ∃ z, Go.bits .and .u64 y2 y4 = z := ⟨_, rfl⟩
          rw [hz0, hz, hza, hzb] at OK
          have E1 := Aside0.mk (EU.out za)
          have E2 := Aside0.mk (ED.out zb)
          clear EU ED
          obtain ⟨e, he⟩ : ∃ e, ext za us = e := ⟨_, rfl⟩
          obtain ⟨f, hf⟩ : ∃ e, ext zb ds = e := ⟨_, rfl⟩
          rw [he] at E1 OK
          rw [hf] at E2 OK
          clear he hf
          obtain ⟨e1, e2⟩ := e
          obtain ⟨f1, f2⟩ := f
          dsimp only at E1 E2 OK
          by_cases hkj : k = j
          · obtain ⟨r1, r2⟩ := HY.out hkj
            subst hkj r1 r2
            clear u1 d1
            have OK2 : Aside0 (okP us ds k k = (e2 && f2)) := ⟨by rw [OK.out]; simp⟩
            go_wp2_with fail
            go_quiet (fail)
            clear OK
            go_wp2_with fail
            go_quiet ((go_at_call 54; exact (E1.out _ (Drawn0.step (Drawn0.refl wi) _)).mono (fun _ _ h => ⟨h.1, _, h.2⟩)))
            go_wp2_with fail
            go_quiet ((go_at_call 54; exact (E2.out _ (Drawn0.step (Drawn0.refl wi) _)).mono (fun _ _ h => ⟨h.1, _, h.2⟩)))
            by_cases he : e2 = true
            · by_cases hf : f2 = true
              · subst he hf
                go_wp2
                go_roundw
                case rel => exact ⟨k + 1, by go_num, by omega, ⟨fun b hb => by
                  by_cases e : b = k
                  · rw [e]; exact OK2.out
                  · exact H1.out b (by omega)⟩, ⟨by repeat (first | exact D1.out | apply Drawn0.step)⟩⟩
                case measure => simp [intOf]; omega
              · obtain rfl : f2 = false := by simpa using hf
                subst he
                have R := Aside0.mk (right_bad hlt hlj OK2.out)
                go_wp2
                go_ret
                exact ⟨by rw [R.out]; rfl, by repeat (first | exact D1.out | apply Drawn0.step)⟩
            · obtain rfl : e2 = false := by simpa using he
              have R := Aside0.mk (right_bad hlt hlj OK2.out)
              go_wp2
              go_ret
              exact ⟨by rw [R.out]; rfl, by repeat (first | exact D1.out | apply Drawn0.step)⟩
          · have k1 : ((k : Int) == (j : Int)) = false := beq_eq_false_iff_ne.2 (by omega)
            have k2 : ¬ (k : Int) = j := by omega
            by_cases hz1 : z = 0
            · subst hz1
              have OK2 : Aside0 (okP us ds k j = (e2 && f2)) := ⟨by rw [OK.out]; simp⟩
              go_wp2_with fail
              go_quiet ((go_at_call 37; exact (H33.out _ (Drawn0.step (Drawn0.refl wi) _)).mono (fun _ _ h => ⟨h.1, _, h.2⟩)))
              clear OK
              go_wp2_with fail
              go_quiet ((go_at_call 54; exact (E1.out _ (Drawn0.step (Drawn0.refl wi) _)).mono (fun _ _ h => ⟨h.1, _, h.2⟩)))
              go_wp2_with fail
              go_quiet ((go_at_call 54; exact (E2.out _ (Drawn0.step (Drawn0.refl wi) _)).mono (fun _ _ h => ⟨h.1, _, h.2⟩)))
              by_cases he : e2 = true
              · by_cases hf : f2 = true
                · subst he hf
                  go_wp2
                  go_roundw
                  case rel => exact ⟨j + 1, by go_num, by omega, ⟨fun b hb => by
                    by_cases e : b = j
                    · rw [e]; exact OK2.out
                    · exact H1.out b (by omega)⟩, ⟨by repeat (first | exact D1.out | apply Drawn0.step)⟩⟩
                  case measure => simp [intOf]; omega
                · obtain rfl : f2 = false := by simpa using hf
                  subst he
                  have R := Aside0.mk (right_bad hlt hlj OK2.out)
                  go_wp2
                  go_ret
                  exact ⟨by rw [R.out]; rfl, by repeat (first | exact D1.out | apply Drawn0.step)⟩
              · obtain rfl : e2 = false := by simpa using he
                have R := Aside0.mk (right_bad hlt hlj OK2.out)
                go_wp2
                go_ret
                exact ⟨by rw [R.out]; rfl, by repeat (first | exact D1.out | apply Drawn0.step)⟩
            · have z1 : (z == 0) = false := beq_eq_false_iff_ne.2 hz1
              have R := Aside0.mk (right_bad hlt hlj (OK.out.trans (by simp [hkj, hz1])))
              clear OK
              have k3 : ((k : Int) != (j : Int)) = true := by simp [k2]
              have z2 : (z != 0) = true := by simp [hz1]
              go_wp2_with fail
              go_quiet ((go_at_call 37; exact (H33.out _ (Drawn0.step (Drawn0.refl wi) _)).mono (fun _ _ h => ⟨h.1, _, h.2⟩)))
              go_wp2
              go_ret
              exact ⟨by rw [R.out]; rfl, by repeat (first | exact D1.out | apply Drawn0.step)⟩
        · go_wp2
          go_roundw
          case rel => exact ⟨k + 1, by go_num, by omega, ⟨fun a ha => by
            by_cases e : a = k
            · rw [e]; exact fun b hb => H1.out b (by omega)
            · exact H0.out a (by omega)⟩, D1⟩
          case measure => simp [intOf]; omega
    · have R := Aside0.mk (right_good (fun a ha => H0.out a (by omega)))
      go_wp2
      go_ret
      exact ⟨by rw [R.out]; rfl, D0.out⟩
end Go.Proofs.Ytpbaebjohioijaa.Lat
