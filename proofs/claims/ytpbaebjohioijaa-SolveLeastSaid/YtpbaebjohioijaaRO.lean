import Derived.Test.YtpbaebjohioijaaRM
namespace Go.Proofs.Ytpbaebjohioijaa.Lat
open Go.RowKit Go.Proofs.YtpbaebjohioijaaW.PrintWords Go.Proofs.YtpbaebjohioijaaW.PrintLast Go.Proofs.YtpbaebjohioijaaW.PrintMore Go.Proofs.Ytpbaebjohioijaa.PSolveLeast
set_option linter.unusedVariables false
set_option linter.unusedSimpArgs false

/-! ### Fits -/
theorem clos28 {w : World} {hb ub db n : Nat} {us ds : List Int} (h : TO w hb ub db n us ds) (ob : Nat) (ho : w.heap[ob]? = some (.cells #[.pointer (some ⟨hb, 0, none⟩)] 28 (0, 0))) (l : Int) :
    Calls Try.prog 28 #[.int .i64 l, .pointer (some ⟨ob, 0, none⟩)] w fun e w' => e = .returned (.bool (!lev n l)) ∧ Below w.heap.size w w' := by
  have co : w.cell? ⟨ob, 0, none⟩ = some (.pointer (some ⟨hb, 0, none⟩)) := (blk_cell ho 0).trans rfl
  have HL := Aside0.mk (level29 h l)
  clear ho h
  obtain ⟨t, ht⟩ : ∃ t, lev n l = t := ⟨_, rfl⟩
  rw [ht] at HL ⊢
  clear ht
  go_enter Try.func28, Try.ntmps28
  go_wp2_with (go_at_call 29; refine HL.out.mono ?_; rintro e w' ⟨rfl, rfl⟩)
  go_ret
  exact ⟨rfl, Below.refl _ _⟩
theorem any_oneI {P : Int → Bool} {es : List Int} {j : Nat} (hj : j < es.length) (h : P (rd es j) = true) : es.any P = true := by
  refine List.any_eq_true.2 ⟨es[j], List.getElem_mem hj, ?_⟩
  unfold rd at h
  rwa [Int.toNat_natCast, List.getD_eq_getElem?_getD, List.getElem?_eq_getElem hj] at h
theorem any_noneI {P : Int → Bool} {es : List Int} (h : ∀ j : Nat, j < es.length → P (rd es j) = false) : es.any P = false := by
  rw [List.any_eq_false]
  intro e he
  obtain ⟨i, hi, rfl⟩ := List.getElem_of_mem he
  have := h i hi
  unfold rd at this
  rw [Int.toNat_natCast, List.getD_eq_getElem?_getD, List.getElem?_eq_getElem hi] at this
  simpa using this
theorem index51_28 (P : Int → Bool) (b2 : Nat) (A : Option Addr) (c : Nat) (es : List Int) (w : World) (hr : Kd.C (Kd.int .i64) w A es.length es) (hl : es.length ≤ 1000000)
    (hc : ∀ k : Nat, k < es.length → ∀ W, Below w.heap.size w W → Calls Try.prog 28 #[.int .i64 (rd es k), .pointer (some ⟨b2, 0, none⟩)] W fun e w' => e = .returned (.bool (P (rd es k))) ∧ Below W.heap.size W w') :
    Calls Try.prog 51 #[.slice A es.length c, .func (.func 28) #[] #[.pointer (some ⟨b2, 0, none⟩)]] w fun e w' => (∃ m : Int, e = .returned (.int .i64 m) ∧ decide (0 ≤ m) = es.any P) ∧ Below w.heap.size w w' := by
  have HR := Aside0.mk hr
  have HCC := Aside0.mk hc
  clear hr hc
  go_enter Try.func51, Try.ntmps51
  go_wp2
  go_loopw [8] (fun i wr => ∃ k : Nat, i = .int .i64 k ∧ k ≤ es.length ∧ Aside0 (∀ j : Nat, j < k → P (rd es j) = false) ∧ Aside0 (Below w.heap.size w wr)) (fun i _ => es.length - (intOf i).toNat)
  case atStart => exact ⟨0, rfl, Nat.zero_le _, ⟨fun j hj => absurd hj (Nat.not_lt_zero j)⟩, ⟨Below.refl _ _⟩⟩
  case round =>
    obtain ⟨k, rfl, hk, H0, HB⟩ := hrel
    obtain ⟨wi, rfl⟩ : ∃ wi : World, wi = wr := ⟨_, rfl⟩
    by_cases hlt : k < es.length
    · obtain ⟨ad, eA, c0⟩ := Kd.at_int (Kd.C_below HR.out HB.out) (k : Int) (by omega) (by omega)
      subst eA
      rw [Int.toNat_natCast] at c0
      have HC2 := Aside0.mk (HCC.out k hlt wi HB.out)
      have hsz := HB.out.size
      obtain ⟨s, hs⟩ : ∃ s, rd es (k : Int) = s := ⟨_, rfl⟩
      rw [hs] at c0 HC2
      have HS := Aside0.mk hs
      obtain ⟨t, ht⟩ : ∃ t, P s = t := ⟨_, rfl⟩
      rw [ht] at HC2
      have HT := Aside0.mk ht
      clear ht hs
      cases t with
      | false =>
        go_wp2_with fail
        refine HC2.out.mono ?_
        rintro e w2 ⟨rfl, b2⟩
        have B2 := Aside0.mk (below_then HB.out hsz b2)
        clear b2
        go_wp2_with fail
        go_roundw
        case rel => exact ⟨k + 1, by go_num, by omega, ⟨fun j hj => by
          by_cases e : j = k
          · rw [e, HS.out]; exact HT.out
          · exact H0.out j (by omega)⟩, B2⟩
        case measure => simp [intOf]; omega
      | true =>
        have R : Aside0 (es.any P = true) := ⟨any_oneI hlt (by rw [HS.out]; exact HT.out)⟩
        go_wp2_with fail
        refine HC2.out.mono ?_
        rintro e w2 ⟨rfl, b2⟩
        have B2 := Aside0.mk (below_then HB.out hsz b2)
        clear b2
        go_wp2_with fail
        go_ret
        exact ⟨⟨(k : Int), rfl, by rw [R.out]; simp⟩, B2.out⟩
    · have R : Aside0 (es.any P = false) := ⟨any_noneI (fun j hj => H0.out j (by omega))⟩
      go_wp2_with fail
      go_ret
      exact ⟨⟨(-1 : Int), rfl, by rw [R.out]; decide⟩, HB.out⟩
theorem contains27_28 (P : Int → Bool) (b2 : Nat) (A : Option Addr) (c : Nat) (es : List Int) (w : World) (hr : Kd.C (Kd.int .i64) w A es.length es) (hl : es.length ≤ 1000000)
    (hc : ∀ k : Nat, k < es.length → ∀ W, Below w.heap.size w W → Calls Try.prog 28 #[.int .i64 (rd es k), .pointer (some ⟨b2, 0, none⟩)] W fun e w' => e = .returned (.bool (P (rd es k))) ∧ Below W.heap.size W w') :
    Calls Try.prog 27 #[.slice A es.length c, .func (.func 28) #[] #[.pointer (some ⟨b2, 0, none⟩)]] w fun e w' => e = .returned (.bool (es.any P)) ∧ Below w.heap.size w w' := by
  have H := Aside0.mk (index51_28 P b2 A c es w hr hl hc)
  clear hr hc
  go_enter Try.func27, Try.ntmps27
  go_wp2_with fail
  refine H.out.mono ?_
  rintro e w' ⟨⟨m, rfl, hm⟩, b⟩
  have HM := Aside0.mk hm
  have B := Aside0.mk b
  clear hm b
  go_wp2_with fail
  go_ret
  exact ⟨by rw [← HM.out]; rfl, B.out⟩
/-- Does a rule hold? -/
def satC (n : Nat) (us lv : List Int) (c : S43) : Bool := mostM n us (if 0 ≤ c.f1 then rd lv c.f1 else c.f2) (rd lv c.f0)
set_option maxRecDepth 100000 in
theorem clos31 {w : World} {hb ub db n : Nat} {us ds : List Int} (h : TO w hb ub db n us ds) (nv vb ob : Nat) (A : Option Addr) (cc : Nat) (lv : List Int) (hln : lv.length = nv) (hn : nv ≤ 1000000) (hC : Kd.C (Kd.int .i64) w A nv lv) (hv : w.heap[vb]? = some (.cells #[.slice A nv cc] 26 (0, 0))) (ho : w.heap[ob]? = some (.cells #[.pointer (some ⟨hb, 0, none⟩)] 28 (0, 0)))
    (c : S43) (h0 : ∃ i : Nat, i < nv ∧ c.f0 = i) (h1 : c.f1 < 0 ∨ ∃ i : Nat, i < nv ∧ c.f1 = i) :
    Calls Try.prog 31 #[conV c, .pointer (some ⟨vb, 0, none⟩), .pointer (some ⟨ob, 0, none⟩)] w fun e w' => e = .returned (.bool (!satC n us lv c)) ∧ Below w.heap.size w w' := by
  obtain ⟨a, b, l⟩ := c
  obtain ⟨x, hx, e0⟩ := h0
  have e0 : a = (x : Int) := e0
  subst e0
  unfold conV
  obtain ⟨w1, hw1⟩ : ∃ w1, w.alloc (.cells #[.int .i64 (x : Int), .int .i64 b, .int .i64 l] 43) = w1 := ⟨_, rfl⟩
  have bA : Below w.heap.size w w1 := by rw [← hw1]; exact below_alloc (Below.refl w.heap.size w) _
  have NK : Aside0 (w1.heap[w.heap.size]? = some (.cells #[.int .i64 (x : Int), .int .i64 b, .int .i64 l] 43 (0, 0))) := ⟨by rw [← hw1]; exact blk_new w _⟩
  have cv : w1.cell? ⟨vb, 0, none⟩ = some (.slice A nv cc) := (blk_cell (blk_below hv bA) 0).trans rfl
  have co : w1.cell? ⟨ob, 0, none⟩ = some (.pointer (some ⟨hb, 0, none⟩)) := (blk_cell (blk_below ho bA) 0).trans rfl
  have k0 : w1.cell? ⟨w.heap.size, 0, none⟩ = some (.int .i64 x) := (blk_cell NK.out 0).trans rfl
  have k1 : w1.cell? ⟨w.heap.size, 1, none⟩ = some (.int .i64 b) := (blk_cell NK.out 1).trans rfl
  have k2 : w1.cell? ⟨w.heap.size, 2, none⟩ = some (.int .i64 l) := (blk_cell NK.out 2).trans rfl
  have BA := Aside0.mk bA
  have HT := Aside0.mk (h.below bA)
  obtain ⟨ad, eA, d0⟩ := Kd.at_int (Kd.C_below hC bA) (x : Int) (by omega) (by omega)
  subst eA
  rw [Int.toNat_natCast] at d0
  have hxi : (x : Int) < (nv : Int) := by omega
  obtain ⟨y, hy⟩ : ∃ y, rd lv (x : Int) = y := ⟨_, rfl⟩
  rw [hy] at d0
  have HY := Aside0.mk hy
  have CM : Aside0 (∀ (q : Int) (W : World), Aside0 (TO W hb ub db n us ds) → Calls Try.prog 13 #[.pointer (some ⟨hb, 0, none⟩), .int .i64 q, .int .i64 y] W fun e w' => e = .returned (.bool (mostM n us q y)) ∧ W = w') := ⟨fun q W h => most_any h.out q y⟩
  have Z0 : Aside0 (TO w1.drew hb ub db n us ds) := ⟨HT.out.below (below_drew (Below.refl _ _))⟩
  have HC2 := Aside0.mk (Kd.C_below hC bA)
  clear bA hy hv ho h hC
  rcases h1 with hneg | ⟨g, hg, e1⟩
  · have hneg : b < 0 := hneg
    have HE : Aside0 (satC n us lv ⟨(x : Int), b, l⟩ = mostM n us l y) := ⟨by
      unfold satC
      rw [if_neg (by show ¬ (0 : Int) ≤ b; omega), ← HY.out]⟩
    rw [HE.out]
    clear HE
    go_enter Try.func31, Try.ntmps31
    go_wp2_with fail
    first | (go_region_held3 (fun w' : World => w'.cell? ⟨vb, 0, none⟩ = some (.slice (some ad) nv cc) ∧ w'.cell? ⟨ob, 0, none⟩ = some (.pointer (some ⟨hb, 0, none⟩)) ∧ w'.cell? ⟨w.heap.size, 0, none⟩ = some (.int .i64 x) ∧ w'.cell? (ad.add x) = some (.int .i64 y))
      (first | exact ⟨cv, co, k0, d0⟩)
      (first | (go_at_call 13; with_reducible refine (CM.out _ _ (by assumption)).mono ?_; rintro e w' ⟨rfl, rfl⟩))) | fail
    go_wp2_with fail
    go_ret
    exact ⟨rfl, below_drew BA.out⟩
  · have e1 : b = (g : Int) := e1
    subst e1
    obtain ⟨ad', eA', d1⟩ := Kd.at_int HC2.out (g : Int) (by omega) (by omega)
    injection eA' with eA'
    subst eA'
    rw [Int.toNat_natCast] at d1
    have hgi : (g : Int) < (nv : Int) := by omega
    obtain ⟨z, hz⟩ : ∃ z, rd lv (g : Int) = z := ⟨_, rfl⟩
    rw [hz] at d1
    have HZ := Aside0.mk hz
    have HE : Aside0 (satC n us lv ⟨(x : Int), (g : Int), l⟩ = mostM n us z y) := ⟨by
      unfold satC
      rw [if_pos (by show (0 : Int) ≤ (g : Int); omega), ← HY.out, ← HZ.out]⟩
    rw [HE.out]
    clear HE hz
    go_enter Try.func31, Try.ntmps31
    go_wp2_with fail
    first | (go_region_held3 (fun w' : World => w'.cell? ⟨vb, 0, none⟩ = some (.slice (some ad) nv cc) ∧ w'.cell? ⟨ob, 0, none⟩ = some (.pointer (some ⟨hb, 0, none⟩)) ∧ w'.cell? ⟨w.heap.size, 0, none⟩ = some (.int .i64 x) ∧ w'.cell? (ad.add x) = some (.int .i64 y))
      (first | exact ⟨cv, co, k0, d0⟩)
      (first | (go_at_call 13; with_reducible refine (CM.out _ _ (by assumption)).mono ?_; rintro e w' ⟨rfl, rfl⟩))) | fail
    go_wp2_with fail
    go_ret
    exact ⟨rfl, below_drew BA.out⟩
def fitsM (n : Nat) (us : List Int) (nv : Int) (cs : List S43) (lv : List Int) : Bool := rightS n nv cs && (decide ((lv.length : Int) = nv) && (!lv.any (fun l => !lev n l) && !cs.any (fun c => !satC n us lv c)))
theorem fitsM_is {n : Nat} {us : List Int} {nv : Nat} {cs : List S43} {lv : List Int} (hR : rightS n (nv : Int) cs = true) : fitsM n us (nv : Int) cs lv = true ↔ SolF n us nv cs lv := by
  unfold fitsM SolF
  rw [hR, Bool.true_and, Bool.and_eq_true, Bool.and_eq_true, decide_eq_true_eq, Bool.not_eq_true', Bool.not_eq_true', List.any_eq_false, List.any_eq_false]
  constructor
  · rintro ⟨h1, h2, h3⟩
    refine ⟨by omega, fun i hi => ?_, fun c hc => ?_⟩
    · have := h2 lv[i] (List.getElem_mem (by omega))
      have e : rd lv (i : Nat) = lv[i] := by
        unfold rd
        rw [Int.toNat_natCast, List.getD_eq_getElem?_getD, List.getElem?_eq_getElem (by omega)]
        rfl
      rw [e]
      simp only [Bool.not_eq_true', Bool.not_eq_false, lev, Bool.and_eq_true, decide_eq_true_eq] at this
      exact this
    · have := h3 c hc
      simpa [satC] using this
  · rintro ⟨h1, h2, h3⟩
    refine ⟨by omega, fun l hl => ?_, fun c hc => ?_⟩
    · obtain ⟨i, hi, rfl⟩ := List.getElem_of_mem hl
      have := h2 i (by omega)
      have e : rd lv (i : Nat) = lv[i] := by
        unfold rd
        rw [Int.toNat_natCast, List.getD_eq_getElem?_getD, List.getElem?_eq_getElem (by omega)]
        rfl
      rw [e] at this
      simp [lev, this.1, this.2]
    · have := h3 c hc
      simpa [satC] using this
set_option maxRecDepth 100000 in
theorem fits11 {w : World} {hb ub db n : Nat} {us ds : List Int} (h : TO w hb ub db n us ds) (nvI : Int) (A : Option Addr) (c : Nat) (cs : List S43) (hr : Kd.C k43 w A cs.length cs) (hm : cs.length ≤ 1000000)
    (B : Option Addr) (cB : Nat) (lv : List Int) (hB : Kd.C (Kd.int .i64) w B lv.length lv) (hlm : lv.length ≤ 1000000) :
    Calls Try.prog 11 #[.pointer (some ⟨hb, 0, none⟩), .int .i64 nvI, .slice A cs.length c, .slice B lv.length cB] w fun e w' => e = .returned (.bool (fitsM n us nvI cs lv)) ∧ Below w.heap.size w w' := by
  obtain ⟨w1, hw1⟩ : ∃ w1, w.alloc (.cells #[.pointer (some ⟨hb, 0, none⟩)] 28) = w1 := ⟨_, rfl⟩
  have b1 : Below w.heap.size w w1 := by rw [← hw1]; exact below_alloc (Below.refl w.heap.size w) _
  have n1 : w1.heap[w.heap.size]? = some (.cells #[.pointer (some ⟨hb, 0, none⟩)] 28 (0, 0)) := by rw [← hw1]; exact blk_new w _
  obtain ⟨w2, hw2⟩ : ∃ w2, w1.alloc (.cells #[.slice B lv.length cB] 26) = w2 := ⟨_, rfl⟩
  have b2 : Below w1.heap.size w1 w2 := by rw [← hw2]; exact below_alloc (Below.refl w1.heap.size w1) _
  have n2 : w2.heap[w1.heap.size]? = some (.cells #[.slice B lv.length cB] 26 (0, 0)) := by rw [← hw2]; exact blk_new w1 _
  have hsz : w.heap.size + 1 = w1.heap.size := by rw [← hw1]; exact (World.size_alloc ..).symm
  have bb := below_then b1 b1.size b2
  have B2 := Aside0.mk bb
  have HT := Aside0.mk (h.below bb)
  have HR := Aside0.mk (Kd.C_below hr bb)
  have HV := Aside0.mk (Kd.C_below hB bb)
  have N1 := Aside0.mk (blk_below n1 b2)
  have N2 := Aside0.mk n2
  have co : w2.cell? ⟨w.heap.size, 0, none⟩ = some (.pointer (some ⟨hb, 0, none⟩)) := (blk_cell N1.out 0).trans rfl
  have CR := Aside0.mk (right21 HT.out nvI A c cs HR.out hm)
  clear bb b1 b2 n1 n2 h hr hB
  obtain ⟨rb, hrb⟩ : ∃ b, rightS n nvI cs = b := ⟨_, rfl⟩
  rw [hrb] at CR
  have HRB := Aside0.mk hrb
  clear hrb
  go_enter Try.func11, Try.ntmps11
  go_wp2_with fail
  refine CR.out.mono ?_
  rintro e w3 ⟨rfl, b⟩
  have B3 := Aside0.mk (below_then B2.out B2.out.size b)
  have N13 := Aside0.mk (blk_below N1.out b)
  have N23 := Aside0.mk (blk_below N2.out b)
  have HT3 := Aside0.mk (HT.out.below b)
  have HR3 := Aside0.mk (Kd.C_below HR.out b)
  have HV3 := Aside0.mk (Kd.C_below HV.out b)
  have co : w3.cell? ⟨w.heap.size, 0, none⟩ = some (.pointer (some ⟨hb, 0, none⟩)) := (blk_cell N13.out 0).trans rfl
  have cv : w3.cell? ⟨w1.heap.size, 0, none⟩ = some (.slice B lv.length cB) := (blk_cell N23.out 0).trans rfl
  clear b CR
  cases rb with
  | false =>
    go_wp2_with fail
    go_ret
    exact ⟨by unfold fitsM; rw [HRB.out]; rfl, B3.out⟩
  | true =>
    by_cases hne : (lv.length : Int) = nvI
    · subst hne
      obtain ⟨hRC, hn⟩ := rc_of HRB.out
      have RCC := Aside0.mk hRC
      have CC := Aside0.mk (contains27_28 (fun l => !lev n l) w.heap.size B cB lv w3 HV3.out hlm (fun k hk W b => clos28 (HT3.out.below b) _ (blk_below N13.out b) _))
      obtain ⟨t, ht⟩ : ∃ t, lv.any (fun l => !lev n l) = t := ⟨_, rfl⟩
      rw [ht] at CC
      have HTT := Aside0.mk ht
      clear ht hRC
      go_wp2_with fail
      refine CC.out.mono ?_
      rintro e w4 ⟨rfl, b⟩
      have B4 := Aside0.mk (below_then B3.out B3.out.size b)
      have N14 := Aside0.mk (blk_below N13.out b)
      have N24 := Aside0.mk (blk_below N23.out b)
      have HT4 := Aside0.mk (HT3.out.below b)
      have HR4 := Aside0.mk (Kd.C_below HR3.out b)
      have HV4 := Aside0.mk (Kd.C_below HV3.out b)
      clear b CC co cv
      cases t with
      | true =>
        go_wp2_with fail
        go_ret
        exact ⟨by unfold fitsM; rw [HRB.out, HTT.out]; simp, B4.out⟩
      | false =>
        have CD := Aside0.mk (contains30_31 (fun c => !satC n us lv c) w1.heap.size w.heap.size A c cs w4 HR4.out hm (fun k hk W b => clos31 (HT4.out.below b) lv.length _ _ B cB lv rfl hlm (Kd.C_below HV4.out b) (blk_below N24.out b) (blk_below N14.out b) _ (RCC.out _ (by rw [rd43_at hk]; exact List.getElem_mem hk)).1
          ((RCC.out _ (by rw [rd43_at hk]; exact List.getElem_mem hk : rd_T43 cs k ∈ cs)).2.imp (fun h => by rw [h.1]; omega) id)))
        obtain ⟨t2, ht2⟩ : ∃ t, cs.any (fun c => !satC n us lv c) = t := ⟨_, rfl⟩
        rw [ht2] at CD
        have HT2 := Aside0.mk ht2
        clear ht2
        go_wp2_with fail
        refine CD.out.mono ?_
        rintro e w5 ⟨rfl, b⟩
        have B5 := Aside0.mk (below_then B4.out B4.out.size b)
        clear b CD
        go_wp2_with fail
        go_ret
        exact ⟨by unfold fitsM; rw [HRB.out, HTT.out, HT2.out]; simp, B5.out⟩
    · have hne2 : ((lv.length : Int) != nvI) = true := bne_iff_ne.2 hne
      have HNE := Aside0.mk hne
      clear hne
      go_wp2_with fail
      go_ret
      exact ⟨by unfold fitsM; rw [decide_eq_false HNE.out]; simp, B3.out⟩

end Go.Proofs.Ytpbaebjohioijaa.Lat
namespace Go.Proofs.Ytpbaebjohioijaa.Lat
open Go.RowKit Go.Proofs.YtpbaebjohioijaaW.PrintWords Go.Proofs.YtpbaebjohioijaaW.PrintLast Go.Proofs.YtpbaebjohioijaaW.PrintMore Go.Proofs.Ytpbaebjohioijaa.PSolveLeast
set_option linter.unusedVariables false
set_option linter.unusedSimpArgs false

/-! ### Over, at the one bound that alive asks for -/
abbrev K58 : Kd (Int × Int × Int × ByteArray) := Kd.pair (Kd.int .i64) (Kd.pair (Kd.int .i64) (Kd.pair (Kd.int .i64) Kd.string))
theorem info58 : (Try.prog.info? 58).map (fun i => (i.zero, i.size, i.bytes)) = some (some (.agg #[.int .i64 0, .int .i64 0, .int .i64 0, .string ⟨#[]⟩]), 4, 40) := by kernel_rfl
theorem store58 (w : World) (a b d : Int) (q : ByteArray) : (storeCells ⟨w.heap.size, 0, none⟩ [.int .i64 a, .int .i64 b, .int .i64 d, .string q] 0).run Try.prog (w.alloc (.cells #[.int .i64 0, .int .i64 0, .int .i64 0, .string ⟨#[]⟩] 58)) = .ok () (w.alloc (.cells #[.int .i64 a, .int .i64 b, .int .i64 d, .string q] 58)) :=
  run_storeCells_new (P := Try.prog) w 58 _ #[.int .i64 a, .int .i64 b, .int .i64 d, .string q] (by kernel_rfl) rfl (by simp; exact ⟨rfl, rfl, rfl, rfl⟩)
set_option maxRecDepth 100000 in
set_option maxHeartbeats 1000000 in
theorem over19 {w : World} {hb ub db n : Nat} {us ds : List Int} (h : TO w hb ub db n us ds) (x nv : Nat) (hx : x < nv) (hnv : nv ≤ 1000000) (l y d : Int) (q : ByteArray) (hl1 : lev n l = true) (hl2 : lev n y = true) (hmo : mostM n us y l = false) (bb : Nat) (hbb : w.heap[bb]? = some (.cells #[.int .i64 x, .int .i64 l, .int .i64 d, .string q] 58 (0, 0)))
    (lb : Nat) (c : Nat) (hl : w.cell? ⟨lb, x, none⟩ = some (.int .i64 y)) :
    Calls Try.prog 19 #[.pointer (some ⟨hb, 0, none⟩), .slice (some ⟨bb, 0, none⟩) 1 1, .slice (some ⟨lb, 0, none⟩) nv c] w fun e w' => (∃ A c', e = .returned (.slice A 1 c')) ∧ Below w.heap.size w w' := by
  have HT := Aside0.mk h
  have HB := Aside0.mk hbb
  have HLB := Aside0.mk hl
  have HMO := Aside0.mk hmo
  have H1 := Aside0.mk hl1
  have H2 := Aside0.mk hl2
  have hxi : (x : Int) < (nv : Int) := by omega
  clear h hbb hl hmo hl1 hl2
  go_enter Try.func19, Try.ntmps19
  go_wp2_with fail
  go_loopw [7, 12] (fun o i wr => ((o = .slice none 0 0 ∧ i = .int .i64 0) ∨ ((∃ A c', o = .slice A 1 c') ∧ i = .int .i64 1)) ∧ Aside0 (Below w.heap.size w wr)) (fun _ i _ => 1 - (intOf i).toNat)
  case atStart => exact ⟨.inl ⟨rfl, rfl⟩, ⟨Below.refl _ _⟩⟩
  case round =>
    obtain ⟨hrel, HBW⟩ := hrel
    obtain ⟨wi, rfl⟩ : ∃ wi : World, wi = wr := ⟨_, rfl⟩
    rcases hrel with ⟨rfl, rfl⟩ | ⟨⟨A, c', rfl⟩, rfl⟩
    · have NB := blk_below HB.out HBW.out
      have c0 : wi.cell? ⟨bb, 0, none⟩ = some (.int .i64 x) := (blk_cell NB 0).trans rfl
      have c1 : wi.cell? ⟨bb, 1, none⟩ = some (.int .i64 l) := (blk_cell NB 1).trans rfl
      have c2 : wi.cell? ⟨bb, 2, none⟩ = some (.int .i64 d) := (blk_cell NB 2).trans rfl
      have c3 : wi.cell? ⟨bb, 3, none⟩ = some (.string q) := (blk_cell NB 3).trans rfl
      have hst := store58 wi x l d q
      obtain ⟨wn, hwn⟩ : ∃ wn, wi.alloc (.cells #[.int .i64 x, .int .i64 l, .int .i64 d, .string q] 58) = wn := ⟨_, rfl⟩
      rw [hwn] at hst
      have bn : Below wi.heap.size wi wn := by rw [← hwn]; exact below_alloc (Below.refl _ _) _
      have NK : Aside0 (wn.heap[wi.heap.size]? = some (.cells #[.int .i64 x, .int .i64 l, .int .i64 d, .string q] 58 (0, 0))) := ⟨by rw [← hwn]; exact blk_new wi _⟩
      have HBN := Aside0.mk (below_then HBW.out HBW.out.size bn)
      have k0 : wn.cell? ⟨wi.heap.size, 0, none⟩ = some (.int .i64 x) := (blk_cell NK.out 0).trans rfl
      have k1 : wn.cell? ⟨wi.heap.size, 1, none⟩ = some (.int .i64 l) := (blk_cell NK.out 1).trans rfl
      have k2 : wn.cell? ⟨wi.heap.size, 2, none⟩ = some (.int .i64 d) := (blk_cell NK.out 2).trans rfl
      have k3 : wn.cell? ⟨wi.heap.size, 3, none⟩ = some (.string q) := (blk_cell NK.out 3).trans rfl
      have l1 : wn.cell? ⟨lb, x, none⟩ = some (.int .i64 y) := (HBN.out.cell (World.block_lt_of_cell? w _ HLB.out)).trans HLB.out
      have CA : Aside0 (∀ (z : Int) (W : World), Aside0 (lev n z = true) → Aside0 (TO W hb ub db n us ds) → Calls Try.prog 29 #[.pointer (some ⟨hb, 0, none⟩), .int .i64 z] W fun e w' => e = .returned (.bool true) ∧ W = w') := ⟨fun z W hz hW => by
        have q := level29 hW.out z
        rwa [hz.out] at q⟩
      have CM : Aside0 (∀ W, Aside0 (TO W hb ub db n us ds) → Calls Try.prog 13 #[.pointer (some ⟨hb, 0, none⟩), .int .i64 y, .int .i64 l] W fun e w' => e = .returned (.bool false) ∧ W = w') := ⟨fun W hW => by
        have z := most_any hW.out y l
        rwa [HMO.out] at z⟩
      have Z0 : Aside0 (TO wn.drew hb ub db n us ds) := ⟨(HT.out.below HBN.out).below (below_drew (Below.refl _ _))⟩
      clear bn
      go_wp2_with fail
      clear hst hwn c0 c1 c2 c3
      first | (go_region_held3 (fun w' : World => w'.cell? ⟨wi.heap.size, 0, none⟩ = some (.int .i64 x) ∧ w'.cell? ⟨wi.heap.size, 1, none⟩ = some (.int .i64 l) ∧ w'.cell? ⟨lb, x, none⟩ = some (.int .i64 y))
        (first | exact ⟨k0, k1, l1⟩)
        (first | (go_at_call 29; with_reducible refine (CA.out _ _ (by assumption) (by assumption)).mono ?_; rintro e w' ⟨rfl, rfl⟩) | (go_at_call 13; with_reducible refine (CM.out _ (by assumption)).mono ?_; rintro e w' ⟨rfl, rfl⟩))) | fail
      obtain ⟨wd, hwd⟩ : ∃ wd, wn.drew = wd := ⟨_, rfl⟩
      have HBD : Aside0 (Below w.heap.size w wd) := ⟨by rw [← hwd]; exact below_drew HBN.out⟩
      have e0 : wd.cell? ⟨wi.heap.size, 0, none⟩ = some (.int .i64 x) := by rw [← hwd]; exact k0
      have e1 : wd.cell? ⟨wi.heap.size, 1, none⟩ = some (.int .i64 l) := by rw [← hwd]; exact k1
      have e2 : wd.cell? ⟨wi.heap.size, 2, none⟩ = some (.int .i64 d) := by rw [← hwd]; exact k2
      have e3 : wd.cell? ⟨wi.heap.size, 3, none⟩ = some (.string q) := by rw [← hwd]; exact k3
      rw [hwd]
      clear hwd k0 k1 k2 k3 l1 CA CM Z0
      go_wp2_with (at_builtin; go_loud (refine Kd.R_append K58 (w0 := wd) wd.heap.size rfl (.tmp 53) (.tmp 55) 55 58 (.agg #[.int .i64 0, .int .i64 0, .int .i64 0, .string ⟨#[]⟩]) 40 rfl Try.underlying55 info58 rfl (by decide) (by decide) (.slice none 0 0) [] ((x : Int), l, d, q) [.int .i64 x, .int .i64 l, .int .i64 d, .string q] (fun _ => True) (fun _ => False) rfl rfl ⟨[.int .i64 x], [.int .i64 l, .int .i64 d, .string q], rfl, rfl, ⟨[.int .i64 l], [.int .i64 d, .string q], rfl, rfl, ⟨[.int .i64 d], [.string q], rfl, rfl, rfl⟩⟩⟩ (fun _ h => h.elim) (fun _ _ => trivial) (Kd.R_nil _ _ _ _ _) (Below.refl _ _) (Nat.le_refl _) (by simp) ?_; intro v1 w5 hv1 hb1 hg1 hat1))
      obtain ⟨A1, c1, ev⟩ := Kd.R_slice hv1
      have B5 := Aside0.mk (below_then HBD.out HBD.out.size hb1)
      have EV : Aside0 (∃ A c', v1 = .slice A 1 c') := ⟨⟨A1, c1, ev⟩⟩
      clear hv1 hb1 hg1 hat1 ev e0 e1 e2 e3
      go_wp2_with fail
      go_roundw
      case rel => exact ⟨.inr ⟨EV.out, by go_num⟩, B5⟩
      case measure => simp [intOf]
    · go_wp2_with fail
      go_ret
      exact ⟨⟨A, c', rfl⟩, HBW.out⟩
end Go.Proofs.Ytpbaebjohioijaa.Lat
