import Derived.Test.YtpbaebjohioijaaRG
namespace Go.Proofs.Ytpbaebjohioijaa.Lat
open Go.RowKit Go.Proofs.YtpbaebjohioijaaW.PrintWords Go.Proofs.YtpbaebjohioijaaW.PrintLast Go.Proofs.YtpbaebjohioijaaW.PrintMore Go.Proofs.Ytpbaebjohioijaa.PSolveLeast
set_option linter.unusedVariables false
set_option linter.unusedSimpArgs false

/-! ### level, the closures, ContainsFunc, right -/
theorem level29 {w : World} {hb ub db n : Nat} {us ds : List Int} (h : TO w hb ub db n us ds) (l : Int) : Calls Try.prog 29 #[.pointer (some ⟨hb, 0, none⟩), .int .i64 l] w fun e w' => e = .returned (.bool (lev n l)) ∧ w = w' := by
  have HS := Aside0.mk (size_any h)
  clear h
  by_cases c : 0 ≤ l
  · rw [show lev n l = decide (l < n) from by simp [lev, c]]
    go_enter Try.func29, Try.ntmps29
    go_wp2_with (go_at_call 33; refine HS.out.mono ?_; rintro e w' ⟨rfl, rfl⟩)
    go_ret
    exact ⟨rfl, rfl⟩
  · rw [show lev n l = false from by simp [lev, c]]
    go_enter Try.func29, Try.ntmps29
    go_wp2_with (go_at_call 33; refine HS.out.mono ?_; rintro e w' ⟨rfl, rfl⟩)
    go_ret
    exact ⟨rfl, rfl⟩
def badC (n nv : Nat) (c : S43) : Bool := decide (c.f0 < 0) || (decide ((nv : Int) ≤ c.f0) || (decide (c.f1 < -1) || (decide ((nv : Int) ≤ c.f1) || (decide (c.f1 = -1) && !lev n c.f2))))
def conV (c : S43) : Value := .agg #[.int .i64 c.f0, .int .i64 c.f1, .int .i64 c.f2]
theorem clos46 {w : World} {hb ub db n : Nat} {us ds : List Int} (h : TO w hb ub db n us ds) (nv : Nat) (vb ob : Nat) (hv : w.heap[vb]? = some (.cells #[.int .i64 nv] 3 (0, 0))) (ho : w.heap[ob]? = some (.cells #[.pointer (some ⟨hb, 0, none⟩)] 28 (0, 0))) (c : S43) :
    Calls Try.prog 46 #[conV c, .pointer (some ⟨vb, 0, none⟩), .pointer (some ⟨ob, 0, none⟩)] w fun e w' => e = .returned (.bool (badC n nv c)) ∧ Below w.heap.size w w' := by
  obtain ⟨a, b, l⟩ := c
  unfold conV
  have bA := below_alloc (Below.refl w.heap.size w) (.cells #[.int .i64 a, .int .i64 b, .int .i64 l] 43)
  have cv : (w.alloc (.cells #[.int .i64 a, .int .i64 b, .int .i64 l] 43)).cell? ⟨vb, 0, none⟩ = some (.int .i64 nv) := (blk_cell (blk_below hv bA) 0).trans rfl
  have co : (w.alloc (.cells #[.int .i64 a, .int .i64 b, .int .i64 l] 43)).cell? ⟨ob, 0, none⟩ = some (.pointer (some ⟨hb, 0, none⟩)) := (blk_cell (blk_below ho bA) 0).trans rfl
  have BA := Aside0.mk bA
  have HL := Aside0.mk (level29 (h.below bA) l)
  clear bA hv ho h
  by_cases h1 : a < 0
  · rw [show badC n nv ⟨a, b, l⟩ = true from by simp [badC, h1]]
    go_enter Try.func46, Try.ntmps46
    go_wp2
    go_ret
    exact ⟨rfl, BA.out⟩
  by_cases h2 : (nv : Int) ≤ a
  · rw [show badC n nv ⟨a, b, l⟩ = true from by simp [badC, h2]]
    go_enter Try.func46, Try.ntmps46
    go_wp2
    go_ret
    exact ⟨rfl, BA.out⟩
  by_cases h3 : b < -1
  · rw [show badC n nv ⟨a, b, l⟩ = true from by simp [badC, h3]]
    go_enter Try.func46, Try.ntmps46
    go_wp2
    go_ret
    exact ⟨rfl, BA.out⟩
  by_cases h4 : (nv : Int) ≤ b
  · rw [show badC n nv ⟨a, b, l⟩ = true from by simp [badC, h4]]
    go_enter Try.func46, Try.ntmps46
    go_wp2
    go_ret
    exact ⟨rfl, BA.out⟩
  by_cases h5 : b = -1
  · subst h5
    obtain ⟨t, ht⟩ : ∃ t, lev n l = t := ⟨_, rfl⟩
    rw [show badC n nv ⟨a, -1, l⟩ = !t from by simp [badC, h1, h2, h4, ht]]
    rw [ht] at HL
    clear ht h3
    go_enter Try.func46, Try.ntmps46
    go_wp2_with (go_at_call 29; refine HL.out.mono ?_; rintro e w' ⟨rfl, rfl⟩)
    go_ret
    exact ⟨rfl, BA.out⟩
  · have h6 : (b == -1) = false := beq_eq_false_iff_ne.2 h5
    rw [show badC n nv ⟨a, b, l⟩ = false from by simp [badC, h1, h2, h3, h4, h5]]
    clear h5
    go_enter Try.func46, Try.ntmps46
    go_wp2
    go_ret
    exact ⟨rfl, BA.out⟩

theorem rd43_at {es : List S43} {j : Nat} (h : j < es.length) : rd_T43 es (j : Int) = es[j] := by
  unfold rd_T43
  rw [Int.toNat_natCast, List.getD_eq_getElem?_getD, List.getElem?_eq_getElem h]
  rfl
theorem any_one43 {P : S43 → Bool} {es : List S43} {j : Nat} (hj : j < es.length) (h : P (rd_T43 es j) = true) : es.any P = true := by
  rw [rd43_at hj] at h
  exact List.any_eq_true.2 ⟨es[j], List.getElem_mem hj, h⟩
theorem any_none43 {P : S43 → Bool} {es : List S43} (h : ∀ j : Nat, j < es.length → P (rd_T43 es j) = false) : es.any P = false := by
  rw [List.any_eq_false]
  intro e he
  obtain ⟨i, hi, rfl⟩ := List.getElem_of_mem he
  have := h i hi
  rw [rd43_at hi] at this
  simp [this]

theorem index52_46 (P : S43 → Bool) (b1 b2 : Nat) (A : Option Addr) (c : Nat) (es : List S43) (w : World) (hr : Kd.C k43 w A es.length es) (hl : es.length ≤ 1000000)
    (hc : ∀ k : Nat, k < es.length → ∀ W, Below w.heap.size w W → Calls Try.prog 46 #[conV (rd_T43 es k), .pointer (some ⟨b1, 0, none⟩), .pointer (some ⟨b2, 0, none⟩)] W fun e w' => e = .returned (.bool (P (rd_T43 es k))) ∧ Below W.heap.size W w') :
    Calls Try.prog 52 #[.slice A es.length c, .func (.func 46) #[] #[.pointer (some ⟨b1, 0, none⟩), .pointer (some ⟨b2, 0, none⟩)]] w fun e w' => (∃ m : Int, e = .returned (.int .i64 m) ∧ decide (0 ≤ m) = es.any P) ∧ Below w.heap.size w w' := by
  have HR := Aside0.mk hr
  have HCC := Aside0.mk hc
  clear hr hc
  go_enter Try.func52, Try.ntmps52
  go_wp2
  go_loopw [8] (fun i wr => ∃ k : Nat, i = .int .i64 k ∧ k ≤ es.length ∧ Aside0 (∀ j : Nat, j < k → P (rd_T43 es j) = false) ∧ Aside0 (Below w.heap.size w wr)) (fun i _ => es.length - (intOf i).toNat)
  case atStart => exact ⟨0, rfl, Nat.zero_le _, ⟨fun j hj => absurd hj (Nat.not_lt_zero j)⟩, ⟨Below.refl _ _⟩⟩
  case round =>
    obtain ⟨k, rfl, hk, H0, HB⟩ := hrel
    obtain ⟨wi, rfl⟩ : ∃ wi : World, wi = wr := ⟨_, rfl⟩
    by_cases hlt : k < es.length
    · obtain ⟨ad, eA, c0, c1, c2⟩ := at_T43 (Kd.C_below HR.out HB.out) (k : Int) (by omega) (by omega)
      subst eA
      rw [Int.toNat_natCast] at c0 c1 c2
      have HC2 := Aside0.mk (HCC.out k hlt wi HB.out)
      have hsz := HB.out.size
      obtain ⟨s, hs⟩ : ∃ s, rd_T43 es (k : Int) = s := ⟨_, rfl⟩
      rw [hs] at c0 c1 c2 HC2
      have HS := Aside0.mk hs
      obtain ⟨t, ht⟩ : ∃ t, P s = t := ⟨_, rfl⟩
      rw [ht] at HC2
      have HT := Aside0.mk ht
      unfold conV at HC2
      clear ht hs
      cases t with
      | false =>
        go_wp2_with fail
        refine HC2.out.mono ?_
        rintro e w2 ⟨rfl, b2⟩
        have B2 := Aside0.mk (below_then HB.out hsz b2)
        clear b2
        go_wp2_with fail
        go_roundw
        case rel => exact ⟨k + 1, by go_num, by omega, ⟨fun j hj => by
          by_cases e : j = k
          · rw [e, HS.out]; exact HT.out
          · exact H0.out j (by omega)⟩, B2⟩
        case measure => simp [intOf]; omega
      | true =>
        have R : Aside0 (es.any P = true) := ⟨any_one43 hlt (by rw [HS.out]; exact HT.out)⟩
        go_wp2_with fail
        refine HC2.out.mono ?_
        rintro e w2 ⟨rfl, b2⟩
        have B2 := Aside0.mk (below_then HB.out hsz b2)
        clear b2
        go_wp2_with fail
        go_ret
        exact ⟨⟨(k : Int), rfl, by rw [R.out]; simp⟩, B2.out⟩
    · have R : Aside0 (es.any P = false) := ⟨any_none43 (fun j hj => H0.out j (by omega))⟩
      go_wp2_with fail
      go_ret
      exact ⟨⟨(-1 : Int), rfl, by rw [R.out]; decide⟩, HB.out⟩
theorem contains30_46 (P : S43 → Bool) (b1 b2 : Nat) (A : Option Addr) (c : Nat) (es : List S43) (w : World) (hr : Kd.C k43 w A es.length es) (hl : es.length ≤ 1000000)
    (hc : ∀ k : Nat, k < es.length → ∀ W, Below w.heap.size w W → Calls Try.prog 46 #[conV (rd_T43 es k), .pointer (some ⟨b1, 0, none⟩), .pointer (some ⟨b2, 0, none⟩)] W fun e w' => e = .returned (.bool (P (rd_T43 es k))) ∧ Below W.heap.size W w') :
    Calls Try.prog 30 #[.slice A es.length c, .func (.func 46) #[] #[.pointer (some ⟨b1, 0, none⟩), .pointer (some ⟨b2, 0, none⟩)]] w fun e w' => e = .returned (.bool (es.any P)) ∧ Below w.heap.size w w' := by
  have H := Aside0.mk (index52_46 P b1 b2 A c es w hr hl hc)
  clear hr hc
  go_enter Try.func30, Try.ntmps30
  go_wp2_with fail
  refine H.out.mono ?_
  rintro e w' ⟨⟨m, rfl, hm⟩, b⟩
  have HM := Aside0.mk hm
  have B := Aside0.mk b
  clear hm b
  go_wp2_with fail
  go_ret
  exact ⟨by rw [← HM.out]; rfl, B.out⟩

theorem index52_31 (P : S43 → Bool) (b1 b2 : Nat) (A : Option Addr) (c : Nat) (es : List S43) (w : World) (hr : Kd.C k43 w A es.length es) (hl : es.length ≤ 1000000)
    (hc : ∀ k : Nat, k < es.length → ∀ W, Below w.heap.size w W → Calls Try.prog 31 #[conV (rd_T43 es k), .pointer (some ⟨b1, 0, none⟩), .pointer (some ⟨b2, 0, none⟩)] W fun e w' => e = .returned (.bool (P (rd_T43 es k))) ∧ Below W.heap.size W w') :
    Calls Try.prog 52 #[.slice A es.length c, .func (.func 31) #[] #[.pointer (some ⟨b1, 0, none⟩), .pointer (some ⟨b2, 0, none⟩)]] w fun e w' => (∃ m : Int, e = .returned (.int .i64 m) ∧ decide (0 ≤ m) = es.any P) ∧ Below w.heap.size w w' := by
  have HR := Aside0.mk hr
  have HCC := Aside0.mk hc
  clear hr hc
  go_enter Try.func52, Try.ntmps52
  go_wp2
  go_loopw [8] (fun i wr => ∃ k : Nat, i = .int .i64 k ∧ k ≤ es.length ∧ Aside0 (∀ j : Nat, j < k → P (rd_T43 es j) = false) ∧ Aside0 (Below w.heap.size w wr)) (fun i _ => es.length - (intOf i).toNat)
  case atStart => exact ⟨0, rfl, Nat.zero_le _, ⟨fun j hj => absurd hj (Nat.not_lt_zero j)⟩, ⟨Below.refl _ _⟩⟩
  case round =>
    obtain ⟨k, rfl, hk, H0, HB⟩ := hrel
    obtain ⟨wi, rfl⟩ : ∃ wi : World, wi = wr := ⟨_, rfl⟩
    by_cases hlt : k < es.length
    · obtain ⟨ad, eA, c0, c1, c2⟩ := at_T43 (Kd.C_below HR.out HB.out) (k : Int) (by omega) (by omega)
      subst eA
      rw [Int.toNat_natCast] at c0 c1 c2
      have HC2 := Aside0.mk (HCC.out k hlt wi HB.out)
      have hsz := HB.out.size
      obtain ⟨s, hs⟩ : ∃ s, rd_T43 es (k : Int) = s := ⟨_, rfl⟩
      rw [hs] at c0 c1 c2 HC2
      have HS := Aside0.mk hs
      obtain ⟨t, ht⟩ : ∃ t, P s = t := ⟨_, rfl⟩
      rw [ht] at HC2
      have HT := Aside0.mk ht
      unfold conV at HC2
      clear ht hs
      cases t with
      | false =>
        go_wp2_with fail
        refine HC2.out.mono ?_
        rintro e w2 ⟨rfl, b2⟩
        have B2 := Aside0.mk (below_then HB.out hsz b2)
        clear b2
        go_wp2_with fail
        go_roundw
        case rel => exact ⟨k + 1, by go_num, by omega, ⟨fun j hj => by
          by_cases e : j = k
          · rw [e, HS.out]; exact HT.out
          · exact H0.out j (by omega)⟩, B2⟩
        case measure => simp [intOf]; omega
      | true =>
        have R : Aside0 (es.any P = true) := ⟨any_one43 hlt (by rw [HS.out]; exact HT.out)⟩
        go_wp2_with fail
        refine HC2.out.mono ?_
        rintro e w2 ⟨rfl, b2⟩
        have B2 := Aside0.mk (below_then HB.out hsz b2)
        clear b2
        go_wp2_with fail
        go_ret
        exact ⟨⟨(k : Int), rfl, by rw [R.out]; simp⟩, B2.out⟩
    · have R : Aside0 (es.any P = false) := ⟨any_none43 (fun j hj => H0.out j (by omega))⟩
      go_wp2_with fail
      go_ret
      exact ⟨⟨(-1 : Int), rfl, by rw [R.out]; decide⟩, HB.out⟩
theorem contains30_31 (P : S43 → Bool) (b1 b2 : Nat) (A : Option Addr) (c : Nat) (es : List S43) (w : World) (hr : Kd.C k43 w A es.length es) (hl : es.length ≤ 1000000)
    (hc : ∀ k : Nat, k < es.length → ∀ W, Below w.heap.size w W → Calls Try.prog 31 #[conV (rd_T43 es k), .pointer (some ⟨b1, 0, none⟩), .pointer (some ⟨b2, 0, none⟩)] W fun e w' => e = .returned (.bool (P (rd_T43 es k))) ∧ Below W.heap.size W w') :
    Calls Try.prog 30 #[.slice A es.length c, .func (.func 31) #[] #[.pointer (some ⟨b1, 0, none⟩), .pointer (some ⟨b2, 0, none⟩)]] w fun e w' => e = .returned (.bool (es.any P)) ∧ Below w.heap.size w w' := by
  have H := Aside0.mk (index52_31 P b1 b2 A c es w hr hl hc)
  clear hr hc
  go_enter Try.func30, Try.ntmps30
  go_wp2_with fail
  refine H.out.mono ?_
  rintro e w' ⟨⟨m, rfl, hm⟩, b⟩
  have HM := Aside0.mk hm
  have B := Aside0.mk b
  clear hm b
  go_wp2_with fail
  go_ret
  exact ⟨by rw [← HM.out]; rfl, B.out⟩

/-- Rules that can be solved. -/
def rightS (n : Nat) (nv : Int) (es : List S43) : Bool := decide (0 ≤ nv) && (decide (nv ≤ 524288) && !es.any (badC n nv.toNat))
theorem right21 {w : World} {hb ub db n : Nat} {us ds : List Int} (h : TO w hb ub db n us ds) (nv : Int) (A : Option Addr) (c : Nat) (es : List S43) (hr : Kd.C k43 w A es.length es) (hl : es.length ≤ 1000000) :
    Calls Try.prog 21 #[.pointer (some ⟨hb, 0, none⟩), .int .i64 nv, .slice A es.length c] w fun e w' => e = .returned (.bool (rightS n nv es)) ∧ Below w.heap.size w w' := by
  have b1 := below_alloc (Below.refl w.heap.size w) (.cells #[.pointer (some ⟨hb, 0, none⟩)] 28)
  have n1 := blk_new w (.cells #[.pointer (some ⟨hb, 0, none⟩)] 28)
  obtain ⟨w1, hw1⟩ : ∃ w1, w.alloc (.cells #[.pointer (some ⟨hb, 0, none⟩)] 28) = w1 := ⟨_, rfl⟩
  rw [hw1] at b1 n1
  have b2 := below_alloc (Below.refl w1.heap.size w1) (.cells #[.int .i64 nv] 3)
  have n2 := blk_new w1 (.cells #[.int .i64 nv] 3)
  obtain ⟨w2, hw2⟩ : ∃ w2, w1.alloc (.cells #[.int .i64 nv] 3) = w2 := ⟨_, rfl⟩
  rw [hw2] at b2 n2
  have n1' := Aside0.mk (blk_below n1 b2)
  have N2 := Aside0.mk n2
  have B2 := Aside0.mk (below_then b1 b1.size b2)
  have HT := Aside0.mk (h.below (below_then b1 b1.size b2))
  have HR := Aside0.mk (Kd.C_below hr (below_then b1 b1.size b2))
  have hsz : w.heap.size + 1 = w1.heap.size := by rw [← hw1]; exact (World.size_alloc ..).symm
  have cn : w2.cell? ⟨w1.heap.size, 0, none⟩ = some (.int .i64 nv) := (blk_cell n2 0).trans rfl
  clear b1 n1 b2 n2 h hr
  by_cases h1 : nv < 0
  · rw [show rightS n nv es = false from by simp [rightS]; omega]
    go_enter Try.func21, Try.ntmps21
    go_wp2
    go_ret
    exact ⟨rfl, B2.out⟩
  by_cases h2 : 524288 < nv
  · rw [show rightS n nv es = false from by simp [rightS]; omega]
    go_enter Try.func21, Try.ntmps21
    go_wp2
    go_ret
    exact ⟨rfl, B2.out⟩
  obtain ⟨m, rfl⟩ : ∃ m : Nat, nv = (m : Int) := ⟨nv.toNat, by omega⟩
  have CC := Aside0.mk (contains30_46 (badC n m) w1.heap.size w.heap.size A c es w2 HR.out hl (fun k hk W b => clos46 (HT.out.below b) m _ _ (blk_below N2.out b) (blk_below n1'.out b) _))
  rw [show rightS n (m : Int) es = !es.any (badC n m) from by simp [rightS]; omega]
  obtain ⟨t, ht⟩ : ∃ t, es.any (badC n m) = t := ⟨_, rfl⟩
  rw [ht] at CC ⊢
  clear ht
  go_enter Try.func21, Try.ntmps21
  go_wp2_with fail
  refine CC.out.mono ?_
  rintro e w3 ⟨rfl, b⟩
  have B3 := Aside0.mk (below_then B2.out B2.out.size b)
  clear b CC cn
  go_wp2_with fail
  go_ret
  exact ⟨rfl, B3.out⟩

end Go.Proofs.Ytpbaebjohioijaa.Lat
