import Derived.Test.YtpbaebjohioijaaC
namespace Go.Proofs.Ytpbaebjohioijaa.Lat
open Go.RowKit Go.Proofs.YtpbaebjohioijaaW.PrintWords Go.Proofs.YtpbaebjohioijaaW.PrintLast Go.Proofs.YtpbaebjohioijaaW.PrintMore Go.Proofs.Ytpbaebjohioijaa.PSolveLeast
set_option linter.unusedVariables false
set_option linter.unusedSimpArgs false

/-! ### all, Join, Meet, Bottom, Top -/
def allStep (n : Nat) (side : List Int) (o l : Int) : Int := if lev n l then Go.bits .and .u64 o (rd side l) else o
def allM (n : Nat) (side : List Int) (list : List Int) : Int := (ext (list.foldl (allStep n side) (2 ^ n - 1)) side).1
theorem fold_take {α : Type} (f : α → Int → α) (a : α) (xs : List Int) (k : Nat) (h : k < xs.length) : (xs.take (k + 1)).foldl f a = f ((xs.take k).foldl f a) (rd xs k) := by
  rw [List.take_add_one, List.foldl_append]
  simp [rd, List.getD_eq_getElem?_getD, List.getElem?_eq_getElem h]
theorem two_le (n : Nat) (h : n ≤ 8) : (1 : Int) ≤ 2 ^ n ∧ (2 : Int) ^ n ≤ 256 := by
  have : n = 0 ∨ n = 1 ∨ n = 2 ∨ n = 3 ∨ n = 4 ∨ n = 5 ∨ n = 6 ∨ n = 7 ∨ n = 8 := by omega
  rcases this with rfl | rfl | rfl | rfl | rfl | rfl | rfl | rfl | rfl <;> decide
set_option maxHeartbeats 1000000 in
theorem all_any {w : World} {hb ub db n : Nat} {us ds : List Int} (h : TO w hb ub db n us ds) {sb : Nat} {side : List Int} (hs : RB w sb n side) (A : Option Addr) (list : List Int) (c : Nat) (hc : list.length ≤ c) (hl : Kd.C (Kd.int .i64) w A list.length list) (hm : list.length ≤ 1000000) :
    Calls Try.prog 58 #[.pointer (some ⟨hb, 0, none⟩), .slice (some ⟨sb, 0, none⟩) n n, .slice A list.length c] w fun e w' => e = .returned (.int .i64 (allM n side list)) ∧ w = w' := by
  have h8 := h.le8
  have HS := Aside0.mk (size_any h)
  have H1 := Aside0.mk (one_any n (by omega) (by omega) w)
  have HR := Aside0.mk hs
  have HL := Aside0.mk hl
  have HE : Aside0 (∀ o, Calls Try.prog 54 #[.int .u64 o, .slice (some ⟨sb, 0, none⟩) n n] w fun e w' => e = .returned (.tuple #[.int .i64 (ext o side).1, .bool (ext o side).2]) ∧ w = w') := ⟨fun o => extreme_any o hs h8⟩
  obtain ⟨p1, p2⟩ := two_le n h8
  have HM : Aside0 (allM n side list = (ext (list.foldl (allStep n side) (2 ^ n - 1)) side).1) := ⟨rfl⟩
  rw [Int.toNat_natCast] at H1
  obtain ⟨x, hx⟩ : ∃ x : Int, 2 ^ n = x := ⟨_, rfl⟩
  rw [hx] at H1 p1 p2 HM
  clear hx h hs hl
  go_enter Try.func58, Try.ntmps58
  go_wp2_with fail
  refine HS.out.mono ?_
  rintro e w' ⟨rfl, rfl⟩
  go_wp2_with fail
  refine H1.out.mono ?_
  rintro e w' ⟨rfl, rfl⟩
  have hx3 : IntKind.u64.wrap (x - 1) = x - 1 := by simp [IntKind.wrap, IntKind.bits, IntKind.signed]; omega
  go_wp2_with fail
  clear H1 hx3
  go_loopw [7, 18] (fun o i wr => ∃ k : Nat, o = .int .u64 ((list.take k).foldl (allStep n side) (x - 1)) ∧ i = .int .i64 k ∧ k ≤ list.length ∧ w = wr) (fun o i _ => list.length - (intOf i).toNat)
  case atStart => exact ⟨0, rfl, rfl, Nat.zero_le _, by first | rfl | trivial⟩
  case round =>
    obtain ⟨k, rfl, rfl, hk, rfl⟩ := hrel
    by_cases hlt : k < list.length
    · have F := Aside0.mk (fold_take (allStep n side) (x - 1) list k hlt)
      obtain ⟨o, ho⟩ : ∃ o, (list.take k).foldl (allStep n side) (x - 1) = o := ⟨_, rfl⟩
      obtain ⟨l, hl⟩ : ∃ l, rd list k = l := ⟨_, rfl⟩
      obtain ⟨ad, rfl, c1⟩ := Kd.at_int HL.out (k : Nat) (by omega) (by omega)
      rw [ho, hl] at F
      rw [Int.toNat_natCast, hl] at c1
      rw [ho]
      clear ho hl
      have HV := Aside0.mk (level_any n l w)
      by_cases hv : lev n l = true
      · rw [hv] at HV
        have hl1 : 0 ≤ l ∧ l < n := by simpa [lev] using hv
        obtain ⟨s1, _⟩ := HR.out.atZ l hl1.1 hl1.2
        have F2 : Aside0 ((list.take (k + 1)).foldl (allStep n side) (x - 1) = Go.bits .and .u64 o (rd side l)) := ⟨by rw [F.out, allStep, hv]; rfl⟩
        obtain ⟨y, hy⟩ : ∃ y, rd side l = y := ⟨_, rfl⟩
        rw [hy] at s1 F2
        obtain ⟨hl2, hl3⟩ := hl1
        clear hv hy F
        go_wp2_with (first | (go_at_call 33; refine HS.out.mono ?_; rintro e w' ⟨rfl, rfl⟩) | (go_at_call 32; refine HV.out.mono ?_; rintro e w' ⟨rfl, rfl⟩))
        go_roundw
        case rel => exact ⟨k + 1, by rw [F2.out], by go_num, by omega, by first | rfl | trivial⟩
        case measure => simp [intOf]; omega
      · obtain hv : lev n l = false := by simpa using hv
        rw [hv] at HV
        have F2 : Aside0 ((list.take (k + 1)).foldl (allStep n side) (x - 1) = o) := ⟨by rw [F.out, allStep, hv]; rfl⟩
        clear hv F
        go_wp2_with (first | (go_at_call 33; refine HS.out.mono ?_; rintro e w' ⟨rfl, rfl⟩) | (go_at_call 32; refine HV.out.mono ?_; rintro e w' ⟨rfl, rfl⟩))
        go_roundw
        case rel => exact ⟨k + 1, by rw [F2.out], by go_num, by omega, by first | rfl | trivial⟩
        case measure => simp [intOf]; omega
    · have ek : list.take k = list := List.take_of_length_le (by omega)
      rw [ek]
      clear ek
      obtain ⟨o, ho⟩ : ∃ o, list.foldl (allStep n side) (x - 1) = o := ⟨_, rfl⟩
      rw [ho] at HM ⊢
      clear ho
      go_wp2_with (go_at_call 54; refine (HE.out _).mono ?_; rintro e w' ⟨rfl, rfl⟩)
      go_ret
      exact ⟨by rw [HM.out]; rfl, by first | rfl | trivial⟩
theorem join_any {w : World} {hb ub db n : Nat} {us ds : List Int} (h : TO w hb ub db n us ds) (A : Option Addr) (list : List Int) (c : Nat) (hc : list.length ≤ c) (hl : Kd.C (Kd.int .i64) w A list.length list) (hm : list.length ≤ 1000000) :
    Calls Try.prog 48 #[.pointer (some ⟨hb, 0, none⟩), .slice A list.length c] w fun e w' => e = .returned (.int .i64 (allM n us list)) ∧ w = w' := by
  have H := Aside0.mk (all_any h h.u A list c hc hl hm)
  have c0 := h.c0
  clear hl h
  go_enter Try.func48, Try.ntmps48
  go_wp2_with (go_at_call 58; refine H.out.mono ?_; rintro e w' ⟨rfl, rfl⟩)
  go_ret
  exact ⟨rfl, rfl⟩
theorem bottom_any {w : World} {hb ub db n : Nat} {us ds : List Int} (h : TO w hb ub db n us ds) :
    Calls Try.prog 23 #[.pointer (some ⟨hb, 0, none⟩)] w fun e w' => e = .returned (.int .i64 (allM n us [])) ∧ w = w' := by
  have H := Aside0.mk (join_any h none [] 0 (Nat.le_refl _) (Kd.C_nil _ _) (by simp))
  clear h
  go_enter Try.func23, Try.ntmps23
  go_wp2_with (go_at_call 48; refine H.out.mono ?_; rintro e w' ⟨rfl, rfl⟩)
  go_ret
  exact ⟨rfl, rfl⟩
/-! ### Most -/
def mostM (n : Nat) (us : List Int) (a b : Int) : Bool := lev n a && (lev n b && hasb (rd us a) b)
theorem most_any {w : World} {hb ub db n : Nat} {us ds : List Int} (h : TO w hb ub db n us ds) (a b : Int) :
    Calls Try.prog 13 #[.pointer (some ⟨hb, 0, none⟩), .int .i64 a, .int .i64 b] w fun e w' => e = .returned (.bool (mostM n us a b)) ∧ w = w' := by
  have h8 := h.le8
  have HS := Aside0.mk (size_any h)
  have HA := Aside0.mk (level_any n a w)
  have HB := Aside0.mk (level_any n b w)
  have HT := Aside0.mk h
  clear h
  by_cases ha : lev n a = true
  · rw [ha] at HA
    by_cases hb : lev n b = true
    · rw [hb] at HB
      have ha1 : 0 ≤ a ∧ a < n := by simpa [lev] using ha
      have hb1 : 0 ≤ b ∧ b < n := by simpa [lev] using hb
      obtain ⟨c1, _⟩ := HT.out.u.atZ a ha1.1 ha1.2
      have c0 := HT.out.c0
      have HH := Aside0.mk (has_any (rd us a) b hb1.1 (by omega) w)
      rw [show mostM n us a b = hasb (rd us a) b from by simp [mostM, ha, hb]]
      obtain ⟨y, hy⟩ : ∃ y, rd us a = y := ⟨_, rfl⟩
      rw [hy] at c1 HH ⊢
      obtain ⟨q1, q2⟩ := ha1
      clear ha hb hb1 hy
      go_enter Try.func13, Try.ntmps13
      go_wp2_with (first | (go_at_call 33; refine HS.out.mono ?_; rintro e w' ⟨rfl, rfl⟩) | (go_at_call_of 32 (Value.int .i64 a); refine HA.out.mono ?_; rintro e w' ⟨rfl, rfl⟩) | (go_at_call_of 32 (Value.int .i64 b); refine HB.out.mono ?_; rintro e w' ⟨rfl, rfl⟩) | (go_at_call 34; refine HH.out.mono ?_; rintro e w' ⟨rfl, rfl⟩))
      go_ret
      exact ⟨rfl, rfl⟩
    · obtain hb : lev n b = false := by simpa using hb
      rw [hb] at HB
      rw [show mostM n us a b = false from by simp [mostM, hb]]
      clear ha hb
      go_enter Try.func13, Try.ntmps13
      go_wp2_with (first | (go_at_call 33; refine HS.out.mono ?_; rintro e w' ⟨rfl, rfl⟩) | (go_at_call_of 32 (Value.int .i64 a); refine HA.out.mono ?_; rintro e w' ⟨rfl, rfl⟩) | (go_at_call_of 32 (Value.int .i64 b); refine HB.out.mono ?_; rintro e w' ⟨rfl, rfl⟩))
      go_ret
      exact ⟨rfl, rfl⟩
  · obtain ha : lev n a = false := by simpa using ha
    rw [ha] at HA
    rw [show mostM n us a b = false from by simp [mostM, ha]]
    clear ha
    go_enter Try.func13, Try.ntmps13
    go_wp2_with (first | (go_at_call 33; refine HS.out.mono ?_; rintro e w' ⟨rfl, rfl⟩) | (go_at_call 32; refine HA.out.mono ?_; rintro e w' ⟨rfl, rfl⟩))
    go_ret
    exact ⟨rfl, rfl⟩
end Go.Proofs.Ytpbaebjohioijaa.Lat
