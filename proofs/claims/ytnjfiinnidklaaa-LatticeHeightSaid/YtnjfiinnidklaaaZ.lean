import Derived.Test.YtnjfiinnidklaaaM
import Derived.Test.YtnjfiinnidklaaaV
namespace Go.Proofs.Ytnjfiinnidklaaa.Lat
open Go.RowKit Go.Proofs.YtnjfiinnidklaaaW.PrintWords Go.Proofs.YtnjfiinnidklaaaW.PrintLast Go.Proofs.YtnjfiinnidklaaaW.PrintMore Go.Proofs.Ytnjfiinnidklaaa.PLatticeNews
set_option linter.unusedVariables false
set_option linter.unusedSimpArgs false

theorem and7 (l : Nat) (h : l < 8) : Go.bits .and .i64 (l : Nat) 7 = (l : Nat) := by
  have : l = 0 ∨ l = 1 ∨ l = 2 ∨ l = 3 ∨ l = 4 ∨ l = 5 ∨ l = 6 ∨ l = 7 := by omega
  rcases this with rfl | rfl | rfl | rfl | rfl | rfl | rfl | rfl <;> decide +kernel
/-! ### An array of eight numbers -/
def intCells (R : Nat → Int) : Array Value := ((List.range 8).map fun i => Value.int .i64 (R i)).toArray
theorem int_get (R : Nat → Int) (i : Nat) (h : i < 8) : (intCells R)[i]? = some (.int .i64 (R i)) := by
  simp [intCells, h]
structure IW (w3 w : World) (b : Nat) (R : Nat → Int) : Prop where
  bk : w.heap[b]? = some (.cells (intCells R) 46 (0, 0))
  bel : Below w3.heap.size w3 w
  ge : w3.heap.size ≤ b
theorem IW.at_ {w3 w : World} {b : Nat} {R : Nat → Int} (h : IW w3 w b R) (i : Nat) (hi : i < 8) : w.cell? ⟨b, i, none⟩ = some (.int .i64 (R i)) ∧ w.frozen? ⟨b, i, none⟩ = false :=
  ⟨(blk_cell h.bk _).trans (int_get R i hi), blk_frozen h.bk _⟩
theorem IW.put {w3 w : World} {b : Nat} {R : Nat → Int} (h : IW w3 w b R) (i : Nat) (v : Int) : IW w3 (w.setCell ⟨b, i, none⟩ (.int .i64 v)) b (upd R i v) := by
  refine ⟨?_, below_set h.bel h.ge, h.ge⟩
  rw [blk_set h.bk i (.int .i64 v)]
  congr 2
  apply Array.ext'
  apply List.ext_getElem
  · simp [intCells]
  · intro j h1 h2
    simp [intCells, List.getElem_set, upd]
    by_cases e : i = j
    · subst e; simp
    · have : ¬ j = i := fun h => e h.symm
      simp [e, this]
/-- The array, and nothing else written since w7. -/
structure IX (w0 w7 w : World) (b : Nat) (R : Nat → Int) : Prop where
  iw : IW w0 w b R
  ft : Foot (fun k => k = b) w7 w
theorem IW.drawn {w3 w w' : World} {b : Nat} {R : Nat → Int} (h : IW w3 w b R) (d : Drawn0 w w') : IW w3 w' b R := ⟨blk_below h.bk d.below, below_then h.bel h.bel.size d.below, h.ge⟩
theorem IW.drew {w3 w : World} {b : Nat} {R : Nat → Int} (h : IW w3 w b R) : IW w3 w.drew b R := ⟨h.bk, below_drew h.bel, h.ge⟩
theorem IX.put {w0 w7 w : World} {b : Nat} {R : Nat → Int} (h : IX w0 w7 w b R) (i : Nat) (v : Int) : IX w0 w7 (w.setCell ⟨b, i, none⟩ (.int .i64 v)) b (upd R i v) := ⟨h.iw.put i v, h.ft.setCell (p := ⟨b, i, none⟩) (fun _ => rfl) _⟩
theorem IX.drew {w0 w7 w : World} {b : Nat} {R : Nat → Int} (h : IX w0 w7 w b R) : IX w0 w7 w.drew b R := ⟨h.iw.drew, h.ft.drew⟩
theorem IX.drawn {w0 w7 w w' : World} {b : Nat} {R : Nat → Int} (h : IX w0 w7 w b R) (d : Drawn0 w w') : IX w0 w7 w' b R := ⟨h.iw.drawn d, h.ft.trans (T := fun k => k = b) (Foot.of_drawn d) (fun _ h _ => h)⟩
theorem IW.below {w3 w w' : World} {b : Nat} {R : Nat → Int} (h : IW w3 w b R) (d : Below w.heap.size w w') : IW w3 w' b R := ⟨blk_below h.bk d, below_then h.bel h.bel.size d, h.ge⟩
set_option maxHeartbeats 80000000 in
set_option maxRecDepth 100000 in
theorem latticeHeight_walk (n : Int) (A : Option Addr) (cE : Nat) (es : List (Int × Int)) (A0 : Option Addr) (c0 : Nat) (ws : List Int) (w : World) (_hn : (Lit.int .i64 n).wf = true) (hr : Kd.C KE w A es.length es) (_hw : ∀ x ∈ es, (Lit.int .i64 x.1).wf = true ∧ (Lit.int .i64 x.2).wf = true) (hr2 : Kd.C (Kd.int .i64) w A0 ws.length ws) (_hw2 : ∀ x ∈ ws, (Lit.int .i64 x).wf = true) :
    Calls Try.prog 6 #[.int .i64 n, .slice A es.length cE, .slice A0 ws.length c0] w fun e w' => e = .returned (.bool true) ∧ Below w.heap.size w w' := by
  have hmax := Kd.C_max hr
  have HC := Aside0.mk hr
  clear hr _hw
  have hmax2 := Kd.C_max hr2
  have HCW := Aside0.mk hr2
  clear hr2 _hw2
  by_cases hl : 200 < es.length
  · go_enter Try.func6, Try.ntmps6
    go_wp2_with fail
    refine (alive w).mono ?_
    rintro e w1 ⟨rfl, b1⟩
    go_wp2
    go_ret
    exact ⟨rfl, b1⟩
  by_cases hl2 : 20 < ws.length
  · go_enter Try.func6, Try.ntmps6
    go_wp2_with fail
    refine (alive w).mono ?_
    rintro e w1 ⟨rfl, b1⟩
    go_wp2
    go_ret
    exact ⟨rfl, b1⟩
  · go_enter Try.func6, Try.ntmps6
    go_wp2_with fail
    refine (alive w).mono ?_
    rintro e w1 ⟨rfl, b1⟩
    have B1 := Aside0.mk b1
    clear b1
    go_wp2_with fail
    refine (copies_any A cE es w1 (Kd.C_below HC.out B1.out) (by omega)).mono ?_
    rintro e w2 ⟨v, rfl, r2, b2⟩
    have B2 := Aside0.mk (below_then B1.out B1.out.size b2)
    obtain ⟨A2, c2, hv2, hl2', hC2⟩ := Kd.R_reads r2
    subst hv2
    have HC2 := Aside0.mk hC2
    clear r2 b2 hC2 B1
    go_wp2_with fail
    refine (new_any n A2 c2 es w2 HC2.out (by omega)).mono ?_
    rintro e w3 ⟨b3, h3⟩
    have B3 := Aside0.mk (below_then B2.out B2.out.size b3)
    clear b3 B2 HC2
    rcases h3 with ⟨hne, rfl⟩ | ⟨h0, hb, ub, db, rfl, T⟩
    · obtain ⟨cd, hcd⟩ : ∃ cd, codeM n es = cd := ⟨_, rfl⟩
      rw [hcd] at hne ⊢
      clear hcd
      have n1 : (cd == 0) = false := beq_eq_false_iff_ne.2 hne
      have n2 : (cd != 0) = true := bne_iff_ne.2 hne
      go_wp2
      go_ret
      exact ⟨by first | rfl | simp [n1, n2] | simp [hne], B3.out⟩
    · obtain ⟨m, rfl, hm0, hm8, hbad, hR⟩ := code_zero h0
      rw [Int.toNat_natCast] at T
      have T3 := Aside0.mk T
      have HB := Aside0.mk hbad
      have HRT := Aside0.mk hR
      clear T hbad hR h0
      obtain ⟨h1, h2⟩ := clos_Mk hm8 HB.out
      have hL := lat_clos hm8 HB.out HRT.out
      obtain ⟨ys, hys, hpw⟩ := chain_all hm8 h2 hL
      obtain ⟨K, hK1, hK2⟩ := height_is hm8 hm0 h2 hys hpw
      have HCH := Aside0.mk (chn_of hm8 h2 hys hpw)
      obtain ⟨g, hg, eg⟩ := allM_lub hm8 hm0 h2 hL.flip []
      have HG : Aside0 (g < m ∧ ∀ i < m, rch m (natE es) i g = true) := ⟨hg.lt, fun i hi => hg.least i hi (by simp [inr])⟩
      have HGE := Aside0.mk eg
      have HY := Aside0.mk hys
      have HLN := Aside0.mk (chainF_len hys)
      have HK1 := Aside0.mk hK1
      have HK2 := Aside0.mk hK2
      have HK8 : Aside0 (K ≤ 8 ∧ K ≤ m) := ⟨by
        have := height_bd (ds := (closE m es).2) hm0 (chainF_lt hys) (chainF_len hys)
        omega⟩
      have HMO : Aside0 (∀ x y : Nat, x < m → y < m → mostM m (closE m es).1 x y = rch m (natE es) x y) := ⟨fun x y hx hy => most_is hm8 h1 hx hy⟩
      clear h1 h2 hL hys hpw hK1 hK2 hg eg HRT HB
      obtain ⟨us, hus⟩ : ∃ us, (closE m es).1 = us := ⟨_, rfl⟩
      obtain ⟨ds, hds⟩ : ∃ ds, (closE m es).2 = ds := ⟨_, rfl⟩
      rw [hus, hds] at T3
      rw [hus] at HMO
      rw [hds] at HY HK1 HGE
      clear hus hds
      obtain ⟨le, hle⟩ : ∃ le, rch m (natE es) = le := ⟨_, rfl⟩
      rw [hle] at HMO HG HCH HK2
      clear hle
      have HC3 := Aside0.mk (Kd.C_below HCW.out B3.out)
      go_wp2_with fail
      go_loopw [9, 10] (fun r i wr => ∃ (k : Nat) (t : Bool), r = .bool t ∧ i = .int .i64 k ∧ k ≤ ws.length ∧ Aside0 (t = true → Rises m le ws k) ∧ Aside0 (Drawn0 w3 wr)) (fun r i _ => ws.length - (intOf i).toNat)
      case atStart => exact ⟨0, _, rfl, rfl, Nat.zero_le _, ⟨fun h => ⟨by simpa using h, .inl rfl⟩⟩, ⟨Drawn0.refl _⟩⟩
      case round =>
        obtain ⟨k, t, rfl, rfl, hk, HRI, D⟩ := hrel
        obtain ⟨wi, rfl⟩ : ∃ wi : World, wi = wr := ⟨_, rfl⟩
        by_cases hkl : k < ws.length
        · have HCi := Kd.C_below HC3.out D.out.below
          obtain ⟨ad, eA, c0'⟩ := Kd.at_int HCi (k : Nat) (by omega) (by omega)
          subst eA
          rw [Int.toNat_natCast] at c0'
          cases t with
          | false =>
            clear HRI HCi
            go_wp2_with fail
            go_quiet (fail)
            go_wp2
            go_roundw
            case rel => exact ⟨k + 1, false, rfl, by go_num, by omega, ⟨fun h => by cases h⟩, ⟨Drawn0.step D.out nq⟩⟩
            case measure => simp [intOf]; omega
          | true =>
            have HR1 := Aside0.mk (HRI.out rfl)
            clear HRI
            obtain ⟨x, hx⟩ : ∃ x, rd ws k = x := ⟨_, rfl⟩
            have HX := Aside0.mk hx
            rw [hx] at c0'
            clear hx
            by_cases hx0 : 0 ≤ x
            · by_cases hxm : x < m
              · obtain ⟨x, rfl⟩ := Int.eq_ofNat_of_zero_le hx0
                have hxm2 : x < m := by omega
                rcases Nat.eq_zero_or_pos k with hk0 | hk0
                · subst hk0
                  have HN : Aside0 (Rises m le ws (0 + 1)) := ⟨HR1.out.next HX.out hxm2 (fun h => absurd h (Nat.lt_irrefl 0))⟩
                  rw [Addr.add_zero'] at c0'
                  clear HR1 HX HCi
                  go_wp2_with fail
                  go_quiet (fail)
                  go_wp2
                  go_roundw
                  case rel => exact ⟨0 + 1, true, rfl, by go_num, by omega, ⟨fun _ => HN.out⟩, ⟨Drawn0.step D.out nq⟩⟩
                  case measure => simp [intOf]; omega
                · have G : ∃ l : Nat, rd ws ((k - 1 : Nat) : Int) = l ∧ l < m := by
                    rcases HR1.out.2 with e | ⟨l, e, hc⟩
                    · omega
                    · exact ⟨l, e, Ch_lt hc⟩
                  obtain ⟨l, hl, hlm⟩ := G
                  have HN : Aside0 (l ≠ x → le l x = true → Rises m le ws (k + 1)) := ⟨fun h1 h2 => HR1.out.next HX.out hxm2 (fun _ => ⟨by rw [hl]; omega, fun l' h3 => by
                    rw [hl] at h3
                    obtain rfl : l = l' := by omega
                    exact h2⟩)⟩
                  obtain ⟨ad2, e2, d0⟩ := Kd.at_int HCi ((k - 1 : Nat) : Int) (by omega) (by omega)
                  obtain rfl : ad = ad2 := by injection e2
                  rw [Int.toNat_natCast, hl] at d0
                  have m1 := HMO.out l x hlm hxm2
                  have H20 : Aside0 (∀ W, Drawn0 wi W → ∀ x y : Int, Calls Try.prog 20 #[.pointer (some ⟨hb, 0, none⟩), .int .i64 x, .int .i64 y] W fun e w' => e = .returned (.bool (mostM m us x y)) ∧ w' = W) := ⟨fun W d x y => (most_any ((T3.out.drawn D.out).drawn d) x y).mono (fun _ _ h => ⟨h.1, h.2.symm⟩)⟩
                  have e0 : ((k : Int) == 0) = false := beq_eq_false_iff_ne.2 (by omega)
                  have e1 : ¬ (k : Int) = 0 := by omega
                  have i1 : (0 : Int) ≤ (k : Int) - 1 := by omega
                  have i2 : (k : Int) - 1 < ws.length := by omega
                  clear HR1 HX HCi e2 hl
                  obtain ⟨u, hu⟩ : ∃ u, le l x = u := ⟨_, rfl⟩
                  rw [hu] at m1 HN
                  clear hu
                  by_cases hlx : l = x
                  · subst hlx
                    clear HN
                    go_wp2_with fail
                    go_quiet (fail)
                    go_wp2
                    go_roundw
                    case rel => exact ⟨k + 1, false, rfl, by go_num, by omega, ⟨fun h => by cases h⟩, ⟨Drawn0.step D.out nq⟩⟩
                    case measure => simp [intOf]; omega
                  · have k1 : ((l : Int) == (x : Int)) = false := beq_eq_false_iff_ne.2 (by omega)
                    have k2 : ¬ (l : Int) = x := by omega
                    have k3 : ((l : Int) != (x : Int)) = true := by simp [k2]
                    have HN2 : Aside0 (u = true → Rises m le ws (k + 1)) := ⟨fun h => HN.out hlx h⟩
                    clear HN
                    cases u
                    all_goals
                      go_wp2_with fail
                      go_quiet (first | ((go_at_call 20; exact (H20.out _ (Drawn0.step (Drawn0.refl wi) _) _ _).mono (fun _ _ h => ⟨h.1, _, h.2⟩))))
                      go_wp2
                      go_roundw
                      case rel => exact ⟨k + 1, _, rfl, by go_num, by omega, ⟨fun h => HN2.out (by first | rfl | trivial | (simp at h))⟩, ⟨Drawn0.step D.out nq⟩⟩
                      case measure => simp [intOf]; omega
              · have d1 : decide (x < (m : Int)) = false := decide_eq_false hxm
                have d2 : decide ((0 : Int) ≤ x) = true := decide_eq_true hx0
                clear HR1 HX HCi hxm
                go_wp2_with fail
                go_quiet (fail)
                go_wp2
                go_roundw
                case rel => exact ⟨k + 1, false, rfl, by go_num, by omega, ⟨fun h => by cases h⟩, ⟨Drawn0.step D.out nq⟩⟩
                case measure => simp [intOf]; omega
            · have d2 : decide ((0 : Int) ≤ x) = false := decide_eq_false hx0
              clear HR1 HX HCi hx0
              go_wp2_with fail
              go_quiet (fail)
              go_wp2
              go_roundw
              case rel => exact ⟨k + 1, false, rfl, by go_num, by omega, ⟨fun h => by cases h⟩, ⟨Drawn0.step D.out nq⟩⟩
              case measure => simp [intOf]; omega
        · have HKL : Aside0 (t = true → ws.length ≤ K) := ⟨fun h => by
            have := HRI.out h
            obtain rfl : k = ws.length := by omega
            exact this.le HK2.out⟩
          have T4 := Aside0.mk (T3.out.drawn D.out)
          have B4 := Aside0.mk (below_then B3.out B3.out.size D.out.below)
          clear HRI D T3 B3
          have REST : Aside0 (∀ w5, Below wi.heap.size wi w5 → True) := ⟨fun _ _ => trivial⟩
          cases t with
          | false =>
            go_wp2_with fail
            have b6 := below_alloc (Below.refl wi.heap.size wi) (.cells #[.int .i64 0, .int .i64 0, .int .i64 0, .int .i64 0, .int .i64 0, .int .i64 0, .int .i64 0, .int .i64 0] 46)
            refine (chain_any (T4.out.below b6) HY.out).mono ?_
            rintro e w7 ⟨v, rfl, r7, b7⟩
            obtain ⟨A7, c7, hv7, hl7, hC7⟩ := Kd.R_reads r7
            rw [HLN.out] at hv7
            subst hv7
            have I7 : Aside0 (IX wi w7 w7 wi.heap.size (fun _ => 0)) := ⟨⟨⟨blk_below (blk_new wi (.cells #[.int .i64 0, .int .i64 0, .int .i64 0, .int .i64 0, .int .i64 0, .int .i64 0, .int .i64 0, .int .i64 0] 46)) b7, below_then b6 b6.size b7, Nat.le_refl _⟩, Foot.refl _ _⟩⟩
            have CX : Aside0 (∀ wr, Foot (fun k => k = wi.heap.size) w7 wr → Kd.C (Kd.int .i64) wr A7 m ys) := ⟨fun wr hf => by
              have r4 := R_foot (Kd.R_mono (Kd.R_bound r7) (ok' := fun k => wi.heap.size < k) (fun k hk => by
                have := hk.2.1
                simp at this
                omega)) hf (fun k hk e => by omega)
              obtain ⟨A5, c5, e5, l5, C5⟩ := Kd.R_reads r4
              rw [HLN.out] at e5 C5
              simp only [Value.slice.injEq] at e5
              obtain ⟨rfl, _, _⟩ := e5
              exact C5⟩
            obtain ⟨w0, hw0⟩ : ∃ w0, wi = w0 := ⟨_, rfl⟩
            obtain ⟨rb, hrb⟩ : ∃ rb, wi.heap.size = rb := ⟨_, rfl⟩
            rw [hrb] at I7 CX ⊢
            clear hw0 hrb r7 b7 b6 hC7 hl7
            go_wp2_with fail
            go_loopw [12, 14] (fun tp i wr => ∃ (k : Nat) (R : Nat → Int) (top : Int), tp = .int .i64 top ∧ i = .int .i64 k ∧ k ≤ m ∧ Aside0 (Outer m le ys k R top) ∧ Aside0 (IX wi w7 wr rb R)) (fun tp i _ => m - (intOf i).toNat)
            case atStart => exact ⟨0, _, 0, rfl, rfl, Nat.zero_le _, ⟨⟨fun p hp => absurd hp (Nat.not_lt_zero p), fun p hp => absurd hp (Nat.not_lt_zero p), .inl ⟨rfl, rfl⟩⟩⟩, I7⟩
            case round =>
              clear I7
              obtain ⟨k, R, top, rfl, rfl, hk, HO, Z⟩ := hrel
              obtain ⟨wp, rfl⟩ : ∃ wp : World, wp = wr := ⟨_, rfl⟩
              by_cases hkm : k < m
              · obtain ⟨ad, eA, c1⟩ := Kd.at_int (CX.out wp Z.out.ft) (k : Nat) (by omega) (by omega)
                subst eA
                have hlm := HCH.out.lt k hkm
                rw [Int.toNat_natCast, HCH.out.val k hkm] at c1
                obtain ⟨l, hl⟩ : ∃ l, nth ys k = l := ⟨_, rfl⟩
                have HL := Aside0.mk hl
                rw [hl] at c1 hlm
                clear hl
                have l8 : l < 8 := by omega
                have e7 := and7 l l8
                obtain ⟨q1, q2⟩ := Z.out.iw.at_ l l8
                have Z1 := Aside0.mk (Z.out.put l 1)
                go_wp2_with fail
                clear q1 q2 c1
                go_loopw [15] (fun j wr => ∃ (q : Nat) (R' : Nat → Int), j = .int .i64 q ∧ q ≤ k ∧ Aside0 (Inner m le ys l q R R') ∧ Aside0 (IX wi w7 wr rb R')) (fun j _ => k - (intOf j).toNat)
                case atStart => exact ⟨0, _, rfl, Nat.zero_le _, ⟨Inner.start l R⟩, Z1⟩
                case round =>
                  clear Z Z1
                  obtain ⟨q, R', rfl, hq, HI, Z⟩ := hrel
                  obtain ⟨wi, rfl⟩ : ∃ wi : World, wi = wr := ⟨_, rfl⟩
                  obtain ⟨ad', eA, c1⟩ := Kd.at_int (CX.out wi Z.out.ft) (k : Nat) (by omega) (by omega)
                  obtain rfl : ad = ad' := by injection eA
                  rw [Int.toNat_natCast, HCH.out.val k hkm, HL.out] at c1
                  obtain ⟨q1, q2⟩ := Z.out.iw.at_ l l8
                  clear eA
                  by_cases hqk : q < k
                  · obtain ⟨ad', eA, c2⟩ := Kd.at_int (CX.out wi Z.out.ft) (q : Nat) (by omega) (by omega)
                    obtain rfl : ad = ad' := by injection eA
                    have hqm : q < m := by omega
                    have hbm := HCH.out.lt q hqm
                    have HNE := (HCH.out.ne q k hqk hkm).1
                    rw [HL.out] at HNE
                    have HRB : Aside0 (1 ≤ R' (nth ys q) ∧ R' (nth ys q) ≤ 8) := ⟨by
                      have h1 := isR_bd HK2.out (HO.out.rk q hqk)
                      rw [HI.out.same _ HNE]
                      have := HK8.out
                      omega⟩
                    have HN0 : Aside0 ((le (nth ys q) l = true → ¬ R' l ≤ R' (nth ys q)) → Inner m le ys l (q + 1) R R') := ⟨fun h => HI.out.no HNE h⟩
                    have HY0 : Aside0 (le (nth ys q) l = true → R' l ≤ R' (nth ys q) → Inner m le ys l (q + 1) R (upd R' l (R' (nth ys q) + 1))) := ⟨fun h h2 => HI.out.yes HNE h h2⟩
                    rw [Int.toNat_natCast, HCH.out.val q hqm] at c2
                    obtain ⟨b, hb2⟩ : ∃ b, nth ys q = b := ⟨_, rfl⟩
                    rw [hb2] at c2 hbm HRB HN0 HY0
                    have b8 : b < 8 := by omega
                    have b8i : (b : Int) < 8 := by omega
                    have l8i : (l : Int) < 8 := by omega
                    have e7b := and7 b b8
                    have m1 := HMO.out b l hbm hlm
                    obtain ⟨p1, p2⟩ := Z.out.iw.at_ b b8
                    obtain ⟨r1, r2⟩ := HRB.out
                    obtain ⟨u, hu⟩ : ∃ u, le b l = u := ⟨_, rfl⟩
                    rw [hu] at m1 HN0 HY0
                    obtain ⟨x, hx⟩ : ∃ x, R' b = x := ⟨_, rfl⟩
                    obtain ⟨y, hy⟩ : ∃ y, R' l = y := ⟨_, rfl⟩
                    rw [hx] at p1 r1 r2 HN0 HY0
                    rw [hy] at q1 HN0 HY0
                    have H20 : Aside0 (∀ W, Drawn0 wi W → ∀ x y : Int, Calls Try.prog 20 #[.pointer (some ⟨hb, 0, none⟩), .int .i64 x, .int .i64 y] W fun e w' => e = .returned (.bool (mostM m us x y)) ∧ w' = W) := ⟨fun W d x y => (most_any ((T4.out.below Z.out.iw.bel).drawn d) x y).mono (fun _ _ h => ⟨h.1, h.2.symm⟩)⟩
                    have Z2 := Aside0.mk (Z.out.put l (x + 1))
                    clear eA hb2 hu hx hy HRB HNE p2
                    cases u with
                    | false =>
                      go_wp2_with fail
                      refine wp_region_quiet_lit (by kernel_rfl) (by kernel_rfl) ?_
                      repeat (any_goals (first | go_big_quiet_step (fail) | quiet_step (fail)))
                      quiet_step ((go_at_call 20; exact (H20.out _ (Drawn0.step (Drawn0.refl wi) _) _ _).mono (fun _ _ h => ⟨h.1, _, h.2⟩)))
                      (first | go_big_quiet_step (fail) | quiet_step (fail))
                      (first | go_big_quiet_step (fail) | quiet_step (fail))
                      (first | go_big_quiet_step (fail) | quiet_step (fail))
                      (first | go_big_quiet_step (fail) | quiet_step (fail))
                      (first | go_big_quiet_step (fail) | quiet_step (fail))
                      (first | go_big_quiet_step (fail) | quiet_step (fail))
                      (first | go_big_quiet_step (fail) | quiet_step (fail))
                      (first | go_big_quiet_step (fail) | quiet_step (fail))
                      (first | go_big_quiet_step (fail) | quiet_step (fail))
                      (first | go_big_quiet_step (fail) | quiet_step (fail))
                      (first | go_big_quiet_step (fail) | quiet_step (fail))
                      (first | go_big_quiet_step (fail) | quiet_step (fail))
                      (first | go_big_quiet_step (fail) | quiet_step (fail))
                      (first | go_big_quiet_step (fail) | quiet_step (fail))
                      (first | go_big_quiet_step (fail) | quiet_step (fail))
                      (first | go_big_quiet_step (fail) | quiet_step (fail))
                      (first | go_big_quiet_step (fail) | quiet_step (fail))
                      refine wpQuiet_nil ?_
                      intro wq hwq
                      obtain ⟨nq, hwq2⟩ := hwq
                      subst hwq2
                      go_wp2
                      go_roundw
                      case rel => exact ⟨q + 1, R', by go_num, by omega, ⟨HN0.out (fun h => absurd h (by decide))⟩, ⟨Z.out.drawn (Drawn0.step (Drawn0.refl wi) nq)⟩⟩
                      case measure => simp [intOf]; omega
                    | true =>
                      by_cases hyx : y ≤ x
                      · have d1 : decide (y ≤ x) = true := decide_eq_true hyx
                        have HY1 := Aside0.mk (HY0.out rfl hyx)
                        go_wp2_with fail
                        refine wp_region_quiet_lit (by kernel_rfl) (by kernel_rfl) ?_
                        repeat (any_goals (first | go_big_quiet_step (fail) | quiet_step (fail)))
                        quiet_step ((go_at_call 20; exact (H20.out _ (Drawn0.step (Drawn0.refl wi) _) _ _).mono (fun _ _ h => ⟨h.1, _, h.2⟩)))
                        (first | go_big_quiet_step (fail) | quiet_step (fail))
                        (first | go_big_quiet_step (fail) | quiet_step (fail))
                        (first | go_big_quiet_step (fail) | quiet_step (fail))
                        (first | go_big_quiet_step (fail) | quiet_step (fail))
                        (first | go_big_quiet_step (fail) | quiet_step (fail))
                        (first | go_big_quiet_step (fail) | quiet_step (fail))
                        (first | go_big_quiet_step (fail) | quiet_step (fail))
                        (first | go_big_quiet_step (fail) | quiet_step (fail))
                        (first | go_big_quiet_step (fail) | quiet_step (fail))
                        (first | go_big_quiet_step (fail) | quiet_step (fail))
                        (first | go_big_quiet_step (fail) | quiet_step (fail))
                        (first | go_big_quiet_step (fail) | quiet_step (fail))
                        (first | go_big_quiet_step (fail) | quiet_step (fail))
                        (first | go_big_quiet_step (fail) | quiet_step (fail))
                        (first | go_big_quiet_step (fail) | quiet_step (fail))
                        (first | go_big_quiet_step (fail) | quiet_step (fail))
                        (first | go_big_quiet_step (fail) | quiet_step (fail))
                        refine wpQuiet_nil ?_
                        intro wq hwq
                        have hD : Drawn0 wi wq := ⟨hwq⟩
                        have HZ3 := Aside0.mk (((Z.out.drawn hD).put l (x + 1)))
                        replace c1 := (hD.below.cell (World.block_lt_of_cell? wi _ c1)).trans c1
                        replace c2 := (hD.below.cell (World.block_lt_of_cell? wi _ c2)).trans c2
                        have q2' := (hD.below.frozen (World.block_lt_of_cell? wi _ q1)).trans q2
                        replace p1 := (hD.below.cell (World.block_lt_of_cell? wi _ p1)).trans p1
                        replace q1 := (hD.below.cell (World.block_lt_of_cell? wi _ q1)).trans q1
                        clear hwq hD q2
                        go_wp2_with fail
                        go_still_tail 14, (by kernel_rfl)
                        all_goals (
                          go_wp2_with fail
                          go_roundw
                          case rel => exact ⟨q + 1, _, by go_num, by omega, HY1, ⟨by first | exact HZ3.out.drew | exact HZ3.out⟩⟩
                          case measure => simp [intOf]; omega)
                      · have d1 : decide (y ≤ x) = false := decide_eq_false hyx
                        have HN1 := Aside0.mk (HN0.out (fun _ => hyx))
                        go_wp2_with fail
                        refine wp_region_quiet_lit (by kernel_rfl) (by kernel_rfl) ?_
                        repeat (any_goals (first | go_big_quiet_step (fail) | quiet_step (fail)))
                        quiet_step ((go_at_call 20; exact (H20.out _ (Drawn0.step (Drawn0.refl wi) _) _ _).mono (fun _ _ h => ⟨h.1, _, h.2⟩)))
                        (first | go_big_quiet_step (fail) | quiet_step (fail))
                        (first | go_big_quiet_step (fail) | quiet_step (fail))
                        (first | go_big_quiet_step (fail) | quiet_step (fail))
                        (first | go_big_quiet_step (fail) | quiet_step (fail))
                        (first | go_big_quiet_step (fail) | quiet_step (fail))
                        (first | go_big_quiet_step (fail) | quiet_step (fail))
                        (first | go_big_quiet_step (fail) | quiet_step (fail))
                        (first | go_big_quiet_step (fail) | quiet_step (fail))
                        (first | go_big_quiet_step (fail) | quiet_step (fail))
                        (first | go_big_quiet_step (fail) | quiet_step (fail))
                        (first | go_big_quiet_step (fail) | quiet_step (fail))
                        (first | go_big_quiet_step (fail) | quiet_step (fail))
                        (first | go_big_quiet_step (fail) | quiet_step (fail))
                        (first | go_big_quiet_step (fail) | quiet_step (fail))
                        (first | go_big_quiet_step (fail) | quiet_step (fail))
                        (first | go_big_quiet_step (fail) | quiet_step (fail))
                        (first | go_big_quiet_step (fail) | quiet_step (fail))
                        refine wpQuiet_nil ?_
                        intro wq hwq
                        obtain ⟨nq, hwq2⟩ := hwq
                        subst hwq2
                        go_wp2
                        go_roundw
                        case rel => exact ⟨q + 1, R', by go_num, by omega, HN1, ⟨Z.out.drawn (Drawn0.step (Drawn0.refl wi) nq)⟩⟩
                        case measure => simp [intOf]; omega
                  · have HON : Aside0 (Outer m le ys (k + 1) R' (if top < R' l then R' l else top)) := ⟨by
                      obtain rfl : q = k := by omega
                      have := HO.out.next HCH.out hkm (by rw [HL.out]; exact HI.out)
                      rw [HL.out] at this
                      exact this⟩
                    obtain ⟨y, hy⟩ : ∃ y, R' l = y := ⟨_, rfl⟩
                    rw [hy] at q1 HON
                    clear hy q2
                    by_cases hty : top < y
                    · rw [if_pos hty] at HON
                      go_wp2_with fail
                      go_roundw
                      case rel => exact ⟨k + 1, R', y, rfl, by go_num, by omega, HON, Z⟩
                      case measure => simp [intOf]; omega
                    · rw [if_neg hty] at HON
                      go_wp2_with fail
                      go_roundw
                      case rel => exact ⟨k + 1, R', top, rfl, by go_num, by omega, HON, Z⟩
                      case measure => simp [intOf]; omega
              · obtain rfl : k = m := by omega
                have ht := HO.out.top_is HCH.out hm0 HK2.out
                subst ht
                have hgr := HO.out.greatest HCH.out hm0 HK2.out HG.out.1 HG.out.2
                have g8 : g < 8 := by have := HG.out.1; omega
                have e7 := and7 g g8
                have T8 := Aside0.mk (T4.out.below Z.out.iw.bel)
                go_wp2_with fail
                refine (height_any T8.out hm0 HY.out).mono ?_
                rintro e w8 ⟨rfl, b8⟩
                have Z8 := Aside0.mk (Z.out.iw.below b8)
                have T9 := Aside0.mk (T8.out.below b8)
                obtain ⟨q1, _⟩ := Z8.out.at_ g g8
                rw [hgr] at q1
                have HT := Aside0.mk (top_any T9.out)
                rw [HGE.out] at HT
                rw [HK1.out]
                clear hgr b8 T8 Z HO
                go_wp2_with fail
                refine HT.out.mono ?_
                rintro e w' ⟨rfl, rfl⟩
                go_wp2_with fail
                go_ret
                exact ⟨by first | rfl | simp, below_then B4.out B4.out.size Z8.out.bel⟩
          | true =>
            have hkl2 := HKL.out rfl
            go_wp2_with fail
            refine (height_any T4.out hm0 HY.out).mono ?_
            rintro e w5 ⟨rfl, b5⟩
            have T5 := Aside0.mk (T4.out.below b5)
            have B5 := Aside0.mk (below_then B4.out B4.out.size b5)
            clear b5 T4 B4
            rw [HK1.out]
            go_wp2_with fail
            have b6 := below_alloc (Below.refl w5.heap.size w5) (.cells #[.int .i64 0, .int .i64 0, .int .i64 0, .int .i64 0, .int .i64 0, .int .i64 0, .int .i64 0, .int .i64 0] 46)
            refine (chain_any (T5.out.below b6) HY.out).mono ?_
            rintro e w7 ⟨v, rfl, r7, b7⟩
            obtain ⟨A7, c7, hv7, hl7, hC7⟩ := Kd.R_reads r7
            rw [HLN.out] at hv7
            subst hv7
            have I7 : Aside0 (IX w5 w7 w7 w5.heap.size (fun _ => 0)) := ⟨⟨⟨blk_below (blk_new w5 (.cells #[.int .i64 0, .int .i64 0, .int .i64 0, .int .i64 0, .int .i64 0, .int .i64 0, .int .i64 0, .int .i64 0] 46)) b7, below_then b6 b6.size b7, Nat.le_refl _⟩, Foot.refl _ _⟩⟩
            have CX : Aside0 (∀ wr, Foot (fun k => k = w5.heap.size) w7 wr → Kd.C (Kd.int .i64) wr A7 m ys) := ⟨fun wr hf => by
              have r4 := R_foot (Kd.R_mono (Kd.R_bound r7) (ok' := fun k => w5.heap.size < k) (fun k hk => by
                have := hk.2.1
                simp at this
                omega)) hf (fun k hk e => by omega)
              obtain ⟨A5, c5, e5, l5, C5⟩ := Kd.R_reads r4
              rw [HLN.out] at e5 C5
              simp only [Value.slice.injEq] at e5
              obtain ⟨rfl, _, _⟩ := e5
              exact C5⟩
            obtain ⟨w0, hw0⟩ : ∃ w0, w5 = w0 := ⟨_, rfl⟩
            obtain ⟨rb, hrb⟩ : ∃ rb, w5.heap.size = rb := ⟨_, rfl⟩
            rw [hrb] at I7 CX ⊢
            clear hw0 hrb r7 b7 b6 hC7 hl7
            go_wp2_with fail
            go_loopw [12, 14] (fun tp i wr => ∃ (k : Nat) (R : Nat → Int) (top : Int), tp = .int .i64 top ∧ i = .int .i64 k ∧ k ≤ m ∧ Aside0 (Outer m le ys k R top) ∧ Aside0 (IX w5 w7 wr rb R)) (fun tp i _ => m - (intOf i).toNat)
            case atStart => exact ⟨0, _, 0, rfl, rfl, Nat.zero_le _, ⟨⟨fun p hp => absurd hp (Nat.not_lt_zero p), fun p hp => absurd hp (Nat.not_lt_zero p), .inl ⟨rfl, rfl⟩⟩⟩, I7⟩
            case round =>
              clear I7
              obtain ⟨k, R, top, rfl, rfl, hk, HO, Z⟩ := hrel
              obtain ⟨wp, rfl⟩ : ∃ wp : World, wp = wr := ⟨_, rfl⟩
              by_cases hkm : k < m
              · obtain ⟨ad, eA, c1⟩ := Kd.at_int (CX.out wp Z.out.ft) (k : Nat) (by omega) (by omega)
                subst eA
                have hlm := HCH.out.lt k hkm
                rw [Int.toNat_natCast, HCH.out.val k hkm] at c1
                obtain ⟨l, hl⟩ : ∃ l, nth ys k = l := ⟨_, rfl⟩
                have HL := Aside0.mk hl
                rw [hl] at c1 hlm
                clear hl
                have l8 : l < 8 := by omega
                have e7 := and7 l l8
                obtain ⟨q1, q2⟩ := Z.out.iw.at_ l l8
                have Z1 := Aside0.mk (Z.out.put l 1)
                go_wp2_with fail
                clear q1 q2 c1
                go_loopw [15] (fun j wr => ∃ (q : Nat) (R' : Nat → Int), j = .int .i64 q ∧ q ≤ k ∧ Aside0 (Inner m le ys l q R R') ∧ Aside0 (IX w5 w7 wr rb R')) (fun j _ => k - (intOf j).toNat)
                case atStart => exact ⟨0, _, rfl, Nat.zero_le _, ⟨Inner.start l R⟩, Z1⟩
                case round =>
                  clear Z Z1
                  obtain ⟨q, R', rfl, hq, HI, Z⟩ := hrel
                  obtain ⟨wi, rfl⟩ : ∃ wi : World, wi = wr := ⟨_, rfl⟩
                  obtain ⟨ad', eA, c1⟩ := Kd.at_int (CX.out wi Z.out.ft) (k : Nat) (by omega) (by omega)
                  obtain rfl : ad = ad' := by injection eA
                  rw [Int.toNat_natCast, HCH.out.val k hkm, HL.out] at c1
                  obtain ⟨q1, q2⟩ := Z.out.iw.at_ l l8
                  clear eA
                  by_cases hqk : q < k
                  · obtain ⟨ad', eA, c2⟩ := Kd.at_int (CX.out wi Z.out.ft) (q : Nat) (by omega) (by omega)
                    obtain rfl : ad = ad' := by injection eA
                    have hqm : q < m := by omega
                    have hbm := HCH.out.lt q hqm
                    have HNE := (HCH.out.ne q k hqk hkm).1
                    rw [HL.out] at HNE
                    have HRB : Aside0 (1 ≤ R' (nth ys q) ∧ R' (nth ys q) ≤ 8) := ⟨by
                      have h1 := isR_bd HK2.out (HO.out.rk q hqk)
                      rw [HI.out.same _ HNE]
                      have := HK8.out
                      omega⟩
                    have HN0 : Aside0 ((le (nth ys q) l = true → ¬ R' l ≤ R' (nth ys q)) → Inner m le ys l (q + 1) R R') := ⟨fun h => HI.out.no HNE h⟩
                    have HY0 : Aside0 (le (nth ys q) l = true → R' l ≤ R' (nth ys q) → Inner m le ys l (q + 1) R (upd R' l (R' (nth ys q) + 1))) := ⟨fun h h2 => HI.out.yes HNE h h2⟩
                    rw [Int.toNat_natCast, HCH.out.val q hqm] at c2
                    obtain ⟨b, hb2⟩ : ∃ b, nth ys q = b := ⟨_, rfl⟩
                    rw [hb2] at c2 hbm HRB HN0 HY0
                    have b8 : b < 8 := by omega
                    have b8i : (b : Int) < 8 := by omega
                    have l8i : (l : Int) < 8 := by omega
                    have e7b := and7 b b8
                    have m1 := HMO.out b l hbm hlm
                    obtain ⟨p1, p2⟩ := Z.out.iw.at_ b b8
                    obtain ⟨r1, r2⟩ := HRB.out
                    obtain ⟨u, hu⟩ : ∃ u, le b l = u := ⟨_, rfl⟩
                    rw [hu] at m1 HN0 HY0
                    obtain ⟨x, hx⟩ : ∃ x, R' b = x := ⟨_, rfl⟩
                    obtain ⟨y, hy⟩ : ∃ y, R' l = y := ⟨_, rfl⟩
                    rw [hx] at p1 r1 r2 HN0 HY0
                    rw [hy] at q1 HN0 HY0
                    have H20 : Aside0 (∀ W, Drawn0 wi W → ∀ x y : Int, Calls Try.prog 20 #[.pointer (some ⟨hb, 0, none⟩), .int .i64 x, .int .i64 y] W fun e w' => e = .returned (.bool (mostM m us x y)) ∧ w' = W) := ⟨fun W d x y => (most_any ((T5.out.below Z.out.iw.bel).drawn d) x y).mono (fun _ _ h => ⟨h.1, h.2.symm⟩)⟩
                    have Z2 := Aside0.mk (Z.out.put l (x + 1))
                    clear eA hb2 hu hx hy HRB HNE p2
                    cases u with
                    | false =>
                      go_wp2_with fail
                      refine wp_region_quiet_lit (by kernel_rfl) (by kernel_rfl) ?_
                      repeat (any_goals (first | go_big_quiet_step (fail) | quiet_step (fail)))
                      quiet_step ((go_at_call 20; exact (H20.out _ (Drawn0.step (Drawn0.refl wi) _) _ _).mono (fun _ _ h => ⟨h.1, _, h.2⟩)))
                      (first | go_big_quiet_step (fail) | quiet_step (fail))
                      (first | go_big_quiet_step (fail) | quiet_step (fail))
                      (first | go_big_quiet_step (fail) | quiet_step (fail))
                      (first | go_big_quiet_step (fail) | quiet_step (fail))
                      (first | go_big_quiet_step (fail) | quiet_step (fail))
                      (first | go_big_quiet_step (fail) | quiet_step (fail))
                      (first | go_big_quiet_step (fail) | quiet_step (fail))
                      (first | go_big_quiet_step (fail) | quiet_step (fail))
                      (first | go_big_quiet_step (fail) | quiet_step (fail))
                      (first | go_big_quiet_step (fail) | quiet_step (fail))
                      (first | go_big_quiet_step (fail) | quiet_step (fail))
                      (first | go_big_quiet_step (fail) | quiet_step (fail))
                      (first | go_big_quiet_step (fail) | quiet_step (fail))
                      (first | go_big_quiet_step (fail) | quiet_step (fail))
                      (first | go_big_quiet_step (fail) | quiet_step (fail))
                      (first | go_big_quiet_step (fail) | quiet_step (fail))
                      (first | go_big_quiet_step (fail) | quiet_step (fail))
                      refine wpQuiet_nil ?_
                      intro wq hwq
                      obtain ⟨nq, hwq2⟩ := hwq
                      subst hwq2
                      go_wp2
                      go_roundw
                      case rel => exact ⟨q + 1, R', by go_num, by omega, ⟨HN0.out (fun h => absurd h (by decide))⟩, ⟨Z.out.drawn (Drawn0.step (Drawn0.refl wi) nq)⟩⟩
                      case measure => simp [intOf]; omega
                    | true =>
                      by_cases hyx : y ≤ x
                      · have d1 : decide (y ≤ x) = true := decide_eq_true hyx
                        have HY1 := Aside0.mk (HY0.out rfl hyx)
                        go_wp2_with fail
                        refine wp_region_quiet_lit (by kernel_rfl) (by kernel_rfl) ?_
                        repeat (any_goals (first | go_big_quiet_step (fail) | quiet_step (fail)))
                        quiet_step ((go_at_call 20; exact (H20.out _ (Drawn0.step (Drawn0.refl wi) _) _ _).mono (fun _ _ h => ⟨h.1, _, h.2⟩)))
                        (first | go_big_quiet_step (fail) | quiet_step (fail))
                        (first | go_big_quiet_step (fail) | quiet_step (fail))
                        (first | go_big_quiet_step (fail) | quiet_step (fail))
                        (first | go_big_quiet_step (fail) | quiet_step (fail))
                        (first | go_big_quiet_step (fail) | quiet_step (fail))
                        (first | go_big_quiet_step (fail) | quiet_step (fail))
                        (first | go_big_quiet_step (fail) | quiet_step (fail))
                        (first | go_big_quiet_step (fail) | quiet_step (fail))
                        (first | go_big_quiet_step (fail) | quiet_step (fail))
                        (first | go_big_quiet_step (fail) | quiet_step (fail))
                        (first | go_big_quiet_step (fail) | quiet_step (fail))
                        (first | go_big_quiet_step (fail) | quiet_step (fail))
                        (first | go_big_quiet_step (fail) | quiet_step (fail))
                        (first | go_big_quiet_step (fail) | quiet_step (fail))
                        (first | go_big_quiet_step (fail) | quiet_step (fail))
                        (first | go_big_quiet_step (fail) | quiet_step (fail))
                        (first | go_big_quiet_step (fail) | quiet_step (fail))
                        refine wpQuiet_nil ?_
                        intro wq hwq
                        have hD : Drawn0 wi wq := ⟨hwq⟩
                        have HZ3 := Aside0.mk (((Z.out.drawn hD).put l (x + 1)))
                        replace c1 := (hD.below.cell (World.block_lt_of_cell? wi _ c1)).trans c1
                        replace c2 := (hD.below.cell (World.block_lt_of_cell? wi _ c2)).trans c2
                        have q2' := (hD.below.frozen (World.block_lt_of_cell? wi _ q1)).trans q2
                        replace p1 := (hD.below.cell (World.block_lt_of_cell? wi _ p1)).trans p1
                        replace q1 := (hD.below.cell (World.block_lt_of_cell? wi _ q1)).trans q1
                        clear hwq hD q2
                        go_wp2_with fail
                        go_still_tail 14, (by kernel_rfl)
                        all_goals (
                          go_wp2_with fail
                          go_roundw
                          case rel => exact ⟨q + 1, _, by go_num, by omega, HY1, ⟨by first | exact HZ3.out.drew | exact HZ3.out⟩⟩
                          case measure => simp [intOf]; omega)
                      · have d1 : decide (y ≤ x) = false := decide_eq_false hyx
                        have HN1 := Aside0.mk (HN0.out (fun _ => hyx))
                        go_wp2_with fail
                        refine wp_region_quiet_lit (by kernel_rfl) (by kernel_rfl) ?_
                        repeat (any_goals (first | go_big_quiet_step (fail) | quiet_step (fail)))
                        quiet_step ((go_at_call 20; exact (H20.out _ (Drawn0.step (Drawn0.refl wi) _) _ _).mono (fun _ _ h => ⟨h.1, _, h.2⟩)))
                        (first | go_big_quiet_step (fail) | quiet_step (fail))
                        (first | go_big_quiet_step (fail) | quiet_step (fail))
                        (first | go_big_quiet_step (fail) | quiet_step (fail))
                        (first | go_big_quiet_step (fail) | quiet_step (fail))
                        (first | go_big_quiet_step (fail) | quiet_step (fail))
                        (first | go_big_quiet_step (fail) | quiet_step (fail))
                        (first | go_big_quiet_step (fail) | quiet_step (fail))
                        (first | go_big_quiet_step (fail) | quiet_step (fail))
                        (first | go_big_quiet_step (fail) | quiet_step (fail))
                        (first | go_big_quiet_step (fail) | quiet_step (fail))
                        (first | go_big_quiet_step (fail) | quiet_step (fail))
                        (first | go_big_quiet_step (fail) | quiet_step (fail))
                        (first | go_big_quiet_step (fail) | quiet_step (fail))
                        (first | go_big_quiet_step (fail) | quiet_step (fail))
                        (first | go_big_quiet_step (fail) | quiet_step (fail))
                        (first | go_big_quiet_step (fail) | quiet_step (fail))
                        (first | go_big_quiet_step (fail) | quiet_step (fail))
                        refine wpQuiet_nil ?_
                        intro wq hwq
                        obtain ⟨nq, hwq2⟩ := hwq
                        subst hwq2
                        go_wp2
                        go_roundw
                        case rel => exact ⟨q + 1, R', by go_num, by omega, HN1, ⟨Z.out.drawn (Drawn0.step (Drawn0.refl wi) nq)⟩⟩
                        case measure => simp [intOf]; omega
                  · have HON : Aside0 (Outer m le ys (k + 1) R' (if top < R' l then R' l else top)) := ⟨by
                      obtain rfl : q = k := by omega
                      have := HO.out.next HCH.out hkm (by rw [HL.out]; exact HI.out)
                      rw [HL.out] at this
                      exact this⟩
                    obtain ⟨y, hy⟩ : ∃ y, R' l = y := ⟨_, rfl⟩
                    rw [hy] at q1 HON
                    clear hy q2
                    by_cases hty : top < y
                    · rw [if_pos hty] at HON
                      go_wp2_with fail
                      go_roundw
                      case rel => exact ⟨k + 1, R', y, rfl, by go_num, by omega, HON, Z⟩
                      case measure => simp [intOf]; omega
                    · rw [if_neg hty] at HON
                      go_wp2_with fail
                      go_roundw
                      case rel => exact ⟨k + 1, R', top, rfl, by go_num, by omega, HON, Z⟩
                      case measure => simp [intOf]; omega
              · obtain rfl : k = m := by omega
                have ht := HO.out.top_is HCH.out hm0 HK2.out
                subst ht
                have hgr := HO.out.greatest HCH.out hm0 HK2.out HG.out.1 HG.out.2
                have g8 : g < 8 := by have := HG.out.1; omega
                have e7 := and7 g g8
                have T8 := Aside0.mk (T5.out.below Z.out.iw.bel)
                go_wp2_with fail
                refine (height_any T8.out hm0 HY.out).mono ?_
                rintro e w8 ⟨rfl, b8⟩
                have Z8 := Aside0.mk (Z.out.iw.below b8)
                have T9 := Aside0.mk (T8.out.below b8)
                obtain ⟨q1, _⟩ := Z8.out.at_ g g8
                rw [hgr] at q1
                have HT := Aside0.mk (top_any T9.out)
                rw [HGE.out] at HT
                rw [HK1.out]
                clear hgr b8 T8 Z HO
                go_wp2_with fail
                refine HT.out.mono ?_
                rintro e w' ⟨rfl, rfl⟩
                go_wp2_with fail
                go_ret
                exact ⟨by first | rfl | simp, below_then B5.out B5.out.size Z8.out.bel⟩
end Go.Proofs.Ytnjfiinnidklaaa.Lat
