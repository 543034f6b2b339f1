import Derived.Test.YthkndoglmajehaaDoorJ
import Derived.Test.YthkndoglmajehaaDoorPLexTokensx1
namespace Go.Proofs.YthkndoglmajehaaDoor.Lex
open Go.RowKit Go.Proofs.YthkndoglmajehaaDoorW.PrintWords Go.Proofs.YthkndoglmajehaaDoorW.PrintLast Go.Proofs.YthkndoglmajehaaDoorW.PrintMore Go.Proofs.YthkndoglmajehaaDoor.PLexTokens
set_option linter.unusedVariables false
set_option linter.unusedSimpArgs false

/-! ### The same tokens -/
set_option maxHeartbeats 8000000 in
set_option maxRecDepth 100000 in
theorem same_any (A B : Option Addr) (ca cb : Nat) (xs : List S31) (w : World) (ha : Kd.C k31 w A xs.length xs) (hb : Kd.C k31 w B xs.length xs) (hl : xs.length ≤ 1000000) :
    Calls Tryd.prog 16 #[.slice A xs.length ca, .slice B xs.length cb] w fun e w' => e = .returned (.bool true) ∧ Below w.heap.size w w' := by
  have HA := Aside0.mk ha
  have HB := Aside0.mk hb
  have hu31 := Tryd.underlying31
  clear ha hb
  go_enter Tryd.func16, Tryd.ntmps16
  go_wp2
  go_loopw [5] (fun i wr => ∃ (k : Nat), i = .int .i64 k ∧ k ≤ xs.length ∧ Aside0 (Below w.heap.size w wr)) (fun i _ => xs.length - (intOf i).toNat)
  case atStart => exact ⟨0, rfl, Nat.zero_le _, ⟨Below.refl _ _⟩⟩
  case round =>
    obtain ⟨k, rfl, hk, HW⟩ := hrel
    obtain ⟨wi, rfl⟩ : ∃ wi : World, wi = wr := ⟨_, rfl⟩
    by_cases hlt : k < xs.length
    · obtain ⟨ad1, e1, a0, a1, a2⟩ := at_T31 (Kd.C_below HA.out HW.out) (k : Nat) (by omega) (by omega)
      cases e1
      obtain ⟨ad2, e2, b0, b1, b2⟩ := at_T31 (Kd.C_below HB.out HW.out) (k : Nat) (by omega) (by omega)
      cases e2
      obtain ⟨t, ht⟩ : ∃ t, rd_T31 xs (k : Nat) = t := ⟨_, rfl⟩
      rw [ht] at a0 a1 a2 b0 b1 b2
      rw [Int.toNat_natCast] at a0 a1 a2 b0 b1 b2
      clear ht
      obtain ⟨t0, t1, t2⟩ := t
      dsimp only at a0 a1 a2 b0 b1 b2
      have hi1 : (0 : Int) ≤ (k : Int) := by omega
      have hi2 : (k : Int) < xs.length := by omega
      have hne := fun (W : World) (d : Nat) => eqA31 d W t0 t0 t1 t1 t2 t2
      go_wp2
      go_quiet (fail)
      go_wp2
      go_roundw
      case rel => exact ⟨k + 1, by go_num, by omega, ⟨pw_below_drewN HW.out _⟩⟩
      case measure => simp [intOf]; omega
    · go_wp2
      go_ret
      exact ⟨rfl, HW.out⟩

/-! ### Names -/
def spelledB (l : List UInt8) : Bool := match l with
  | [] => false
  | c :: t => isLet c && t.all isInner
def nameB (l : List UInt8) : Bool := decide (l.length ≤ 16) && (spelledB l && !isWord l)
/-- The byte at a place, as spelled asks. -/
def okAt (j : Nat) (c : UInt8) : Bool := isLet c || (decide (0 < j) && (isDig c || c == 95))
theorem okAt_pos {j : Nat} (h : 0 < j) (c : UInt8) : okAt j c = isInner c := by
  unfold okAt isInner
  rw [decide_eq_true h, Bool.true_and, Bool.or_assoc]
theorem spelled_all (s : ByteArray) (h0 : 0 < s.size) (h : ∀ j (hj : j < s.size), okAt j s[j] = true) : spelledB s.data.toList = true := by
  obtain ⟨t, ht⟩ := head_of s h0
  rw [ht]
  unfold spelledB
  rw [Bool.and_eq_true]
  constructor
  · have := h 0 h0
    unfold okAt at this
    simpa using this
  · rw [List.all_eq_true]
    intro c hc
    obtain ⟨i, hi, rfl⟩ := List.getElem_of_mem hc
    have hlen := congrArg List.length ht
    rw [size_list, List.length_cons] at hlen
    have h2 := h (i + 1) (by omega)
    rw [okAt_pos (by omega)] at h2
    have h3 : s[i + 1]'(by omega) = t[i] := by
      have h4 : s[i + 1]'(by omega) = s.data.toList[i + 1]'(by rw [size_list]; omega) := rfl
      rw [h4]
      have : ∀ (L : List UInt8) (hL : i + 1 < L.length), L = s[0] :: t → L[i + 1] = t[i] := by
        intro L hL e
        subst e
        rfl
      exact this _ _ ht
    rwa [h3] at h2
theorem spelled_one (s : ByteArray) (j : Nat) (hj : j < s.size) (h : okAt j s[j] = false) : spelledB s.data.toList = false := by
  obtain ⟨t, ht⟩ := head_of s (by omega)
  rw [ht]
  unfold spelledB
  rw [Bool.and_eq_false_iff]
  cases j with
  | zero =>
    left
    unfold okAt at h
    simpa using h
  | succ i =>
    right
    rw [okAt_pos (by omega)] at h
    rw [Bool.eq_false_iff]
    intro hall
    rw [List.all_eq_true] at hall
    have hlen := congrArg List.length ht
    rw [size_list, List.length_cons] at hlen
    have h3 : s[i + 1]'hj = t[i]'(by omega) := by
      have h4 : s[i + 1]'hj = s.data.toList[i + 1]'(by rw [size_list]; omega) := rfl
      rw [h4]
      have : ∀ (c : UInt8) (L : List UInt8) (hL : i + 1 < L.length) (ht' : i < t.length), L = c :: t → L[i + 1] = t[i] := by
        intro c L hL ht' e
        subst e
        rfl
      exact this _ _ _ _ ht
    rw [h3] at h
    have := hall _ (List.getElem_mem (by omega : i < t.length))
    rw [this] at h
    cases h
set_option maxHeartbeats 8000000 in
set_option maxRecDepth 100000 in
theorem spelled_any (s : ByteArray) (w : World) (hs : s.size ≤ 1000000) : Calls Tryd.prog 20 #[.string s] w fun e w' => e = .returned (.bool (spelledB s.data.toList)) ∧ w = w' := by
  go_enter Tryd.func20, Tryd.ntmps20
  go_wp2
  go_loop [3] (fun i => ∃ k : Nat, i = .int .i64 k ∧ k ≤ s.size ∧ Aside0 (∀ j (hj : j < s.size), j < k → okAt j s[j] = true)) (fun i => s.size - (intOf i).toNat)
  case atStart => exact ⟨0, rfl, Nat.zero_le _, ⟨fun j hj h => absurd h (Nat.not_lt_zero j)⟩⟩
  case round =>
    obtain ⟨k, rfl, hk, H0⟩ := hrel
    by_cases hlt : k < s.size
    · have step : okAt k s[k] = true → Aside0 (∀ j (hj : j < s.size), j < k + 1 → okAt j s[j] = true) := fun h => ⟨fun j hj h2 => by
        by_cases e : j = k
        · subst e; exact h
        · exact H0.out j hj (by omega)⟩
      have stop : okAt k s[k] = false → Aside0 (spelledB s.data.toList = false) := fun h => ⟨spelled_one s k hlt h⟩
      by_cases p1 : isLet s[k] = true
      · have HS := step (by unfold okAt; rw [p1]; rfl)
        clear step stop
        go_wp2_with (first | (go_at_call 24; refine (small_any _ _).mono ?_; rintro e w' ⟨rfl, rfl⟩) | (go_at_call 25; refine (digit_any _ _).mono ?_; rintro e w' ⟨rfl, rfl⟩))
        go_round
        case rel => exact ⟨k + 1, by go_num, by omega, HS⟩
        case measure => simp [intOf]; omega
      · obtain p1 : isLet s[k] = false := by simpa using p1
        by_cases hk0 : k = 0
        · subst hk0
          have HS := stop (by unfold okAt; rw [p1]; rfl)
          clear step stop
          go_wp2_with (first | (go_at_call 24; refine (small_any _ _).mono ?_; rintro e w' ⟨rfl, rfl⟩) | (go_at_call 25; refine (digit_any _ _).mono ?_; rintro e w' ⟨rfl, rfl⟩))
          go_ret
          exact ⟨by rw [HS.out]; rfl, rfl⟩
        · have hkz : ((k : Int) == 0) = false := beq_eq_false_iff_ne.2 (by omega)
          have hok := okAt_pos (show 0 < k by omega) s[k]
          unfold isInner at hok
          rw [p1, Bool.false_or] at hok
          by_cases p2 : isDig s[k] = true
          · have HS := step (by rw [hok, p2]; rfl)
            clear step stop hok hk0
            go_wp2_with (first | (go_at_call 24; refine (small_any _ _).mono ?_; rintro e w' ⟨rfl, rfl⟩) | (go_at_call 25; refine (digit_any _ _).mono ?_; rintro e w' ⟨rfl, rfl⟩))
            go_round
            case rel => exact ⟨k + 1, by go_num, by omega, HS⟩
            case measure => simp [intOf]; omega
          · obtain p2 : isDig s[k] = false := by simpa using p2
            rw [p2, Bool.false_or] at hok
            by_cases p3 : s[k] = 95
            · have HS := step (by rw [hok, p3]; rfl)
              have hb : ((s[k].toNat : Int) != 95) = false := by rw [p3]; rfl
              clear step stop hok hk0 p3
              go_wp2_with (first | (go_at_call 24; refine (small_any _ _).mono ?_; rintro e w' ⟨rfl, rfl⟩) | (go_at_call 25; refine (digit_any _ _).mono ?_; rintro e w' ⟨rfl, rfl⟩))
              go_round
              case rel => exact ⟨k + 1, by go_num, by omega, HS⟩
              case measure => simp [intOf]; omega
            · have HS := stop (by rw [hok, beq_eq_false_iff_ne]; exact p3)
              have hb : ((s[k].toNat : Int) != 95) = true := by
                rw [bne_iff_ne]
                exact fun h => p3 (UInt8.toNat_inj.1 (by have : (95 : UInt8).toNat = 95 := rfl; omega))
              clear step stop hok hk0 p3
              go_wp2_with (first | (go_at_call 24; refine (small_any _ _).mono ?_; rintro e w' ⟨rfl, rfl⟩) | (go_at_call 25; refine (digit_any _ _).mono ?_; rintro e w' ⟨rfl, rfl⟩))
              go_ret
              exact ⟨by rw [HS.out]; rfl, rfl⟩
    · by_cases h0 : 0 < s.size
      · have HS : Aside0 (spelledB s.data.toList = true) := ⟨spelled_all s h0 (fun j hj => H0.out j hj (by omega))⟩
        go_wp2
        go_ret
        exact ⟨by rw [HS.out]; simp [h0], rfl⟩
      · have HS : Aside0 (spelledB s.data.toList = false) := ⟨by
          have : s.data.toList = [] := List.length_eq_zero_iff.1 (by rw [size_list]; omega)
          rw [this]; rfl⟩
        go_wp2
        go_ret
        exact ⟨by rw [HS.out]; simp [h0], rfl⟩
theorem refName_any (s : ByteArray) (w : World) (hs : s.size ≤ 1000000) : Calls Tryd.prog 12 #[.string s] w fun e w' => e = .returned (.bool (nameB s.data.toList)) ∧ Below w.heap.size w w' := by
  have hsl := size_list s
  obtain ⟨a, ha⟩ : ∃ a, spelledB s.data.toList = a := ⟨_, rfl⟩
  obtain ⟨b, hb⟩ : ∃ b, isWord s.data.toList = b := ⟨_, rfl⟩
  have H1 := Aside0.mk (spelled_any s w hs)
  have H2 := Aside0.mk (refWord_any s w)
  have hn : nameB s.data.toList = (decide (s.size ≤ 16) && (a && !b)) := by unfold nameB; rw [ha, hb, hsl]
  rw [hn]
  rw [ha] at H1
  rw [hb] at H2
  clear ha hb hn hsl
  by_cases h16 : s.size ≤ 16
  · rw [decide_eq_true h16, Bool.true_and]
    cases a with
    | true =>
      go_enter Tryd.func12, Tryd.ntmps12
      go_wp2_with (first | (go_at_call 20; refine H1.out.mono ?_; rintro e w' ⟨rfl, rfl⟩) | (go_at_call 11; refine H2.out.mono ?_; rintro e w' ⟨rfl, hb⟩))
      go_ret
      exact ⟨by cases b <;> rfl, hb⟩
    | false =>
      go_enter Tryd.func12, Tryd.ntmps12
      go_wp2_with (first | (go_at_call 20; refine H1.out.mono ?_; rintro e w' ⟨rfl, rfl⟩))
      go_ret
      exact ⟨rfl, Below.refl _ _⟩
  · rw [decide_eq_false h16, Bool.false_and]
    go_enter Tryd.func12, Tryd.ntmps12
    go_wp2
    go_ret
    exact ⟨rfl, Below.refl _ _⟩
end Go.Proofs.YthkndoglmajehaaDoor.Lex
