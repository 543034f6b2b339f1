import Derived.Test.YtnjfiinnidklaaaJ
import Derived.Test.YtnjfiinnidklaaaO
namespace Go.Proofs.Ytnjfiinnidklaaa.Lat
open Go.RowKit Go.Proofs.YtnjfiinnidklaaaW.PrintWords Go.Proofs.YtnjfiinnidklaaaW.PrintLast Go.Proofs.YtnjfiinnidklaaaW.PrintMore Go.Proofs.Ytnjfiinnidklaaa.PLatticeNews
set_option linter.unusedVariables false
set_option linter.unusedSimpArgs false

/-! ### An array of eight Booleans -/
def boolCells (S : Nat → Bool) : Array Value := ((List.range 8).map fun i => Value.bool (S i)).toArray
structure SB (w : World) (sb : Nat) (S : Nat → Bool) : Prop where
  bk : w.heap[sb]? = some (.cells (boolCells S) 40 (0, 0))
theorem bool_get (S : Nat → Bool) (i : Nat) (h : i < 8) : (boolCells S)[i]? = some (.bool (S i)) := by
  simp [boolCells, h]
theorem SB.at_ {w : World} {sb : Nat} {S : Nat → Bool} (h : SB w sb S) (i : Nat) (hi : i < 8) : w.cell? ⟨sb, i, none⟩ = some (.bool (S i)) ∧ w.frozen? ⟨sb, i, none⟩ = false :=
  ⟨(blk_cell h.bk _).trans (bool_get S i hi), blk_frozen h.bk _⟩
theorem SB.put {w : World} {sb : Nat} {S : Nat → Bool} (h : SB w sb S) (i : Nat) : SB (w.setCell ⟨sb, i, none⟩ (.bool true)) sb (fun x => S x || x == i) := by
  refine ⟨?_⟩
  rw [blk_set h.bk i (.bool true)]
  congr 2
  apply Array.ext'
  apply List.ext_getElem
  · simp [boolCells]
  · intro j h1 h2
    simp [boolCells, List.getElem_set]
    by_cases e : i = j
    · subst e; simp
    · have : ¬ j = i := fun h => e h.symm
      simp [e, this]
theorem SB.ext {w : World} {sb : Nat} {S T : Nat → Bool} (h : SB w sb S) (e : S = T) : SB w sb T := e ▸ h
theorem SB.below {w w' : World} {sb : Nat} {S : Nat → Bool} (h : SB w sb S) (b : Below w.heap.size w w') : SB w' sb S := ⟨blk_below h.bk b⟩
theorem SB.new (w : World) : SB (w.alloc (.cells #[.bool false, .bool false, .bool false, .bool false, .bool false, .bool false, .bool false, .bool false] 40)) w.heap.size (fun _ => false) := ⟨by rw [blk_new]; rfl⟩
/-- A loop's world in which the row of Booleans is turned, made behind w3. -/
structure SW (w3 w : World) (sb : Nat) (S : Nat → Bool) : Prop where
  row : SB w sb S
  bel : Below w3.heap.size w3 w
  ge : w3.heap.size ≤ sb
theorem SW.put {w3 w : World} {sb : Nat} {S : Nat → Bool} (h : SW w3 w sb S) (i : Nat) : SW w3 (w.setCell ⟨sb, i, none⟩ (.bool true)) sb (fun x => S x || x == i) := ⟨h.row.put i, below_set h.bel h.ge, h.ge⟩
theorem SW.drawn {w3 w w' : World} {sb : Nat} {S : Nat → Bool} (h : SW w3 w sb S) (d : Drawn0 w w') : SW w3 w' sb S := ⟨h.row.below d.below, below_then h.bel h.bel.size d.below, h.ge⟩
set_option maxHeartbeats 4000000 in
set_option maxRecDepth 100000 in
theorem latticeBelow_walk (n : Int) (A : Option Addr) (cE : Nat) (es : List (Int × Int)) (w : World) (_hn : (Lit.int .i64 n).wf = true) (hr : Kd.C KE w A es.length es) (_hw : ∀ x ∈ es, (Lit.int .i64 x.1).wf = true ∧ (Lit.int .i64 x.2).wf = true) :
    Calls Try.prog 4 #[.int .i64 n, .slice A es.length cE] w fun e w' => e = .returned (.bool true) ∧ Below w.heap.size w w' := by
  have hmax := Kd.C_max hr
  have HC := Aside0.mk hr
  clear hr _hw
  by_cases hl : 200 < es.length
  · go_enter Try.func4, Try.ntmps4
    go_wp2_with fail
    refine (alive w).mono ?_
    rintro e w1 ⟨rfl, b1⟩
    go_wp2
    go_ret
    exact ⟨rfl, b1⟩
  · go_enter Try.func4, Try.ntmps4
    go_wp2_with fail
    refine (alive w).mono ?_
    rintro e w1 ⟨rfl, b1⟩
    have B1 := Aside0.mk b1
    clear b1
    go_wp2_with fail
    refine (copies_any A cE es w1 (Kd.C_below HC.out B1.out) (by omega)).mono ?_
    rintro e w2 ⟨v, rfl, r2, b2⟩
    have B2 := Aside0.mk (below_then B1.out B1.out.size b2)
    obtain ⟨A2, c2, hv2, hl2, hC2⟩ := Kd.R_reads r2
    subst hv2
    have HC2 := Aside0.mk hC2
    clear r2 b2 hC2 B1
    go_wp2_with fail
    refine (new_any n A2 c2 es w2 HC2.out (by omega)).mono ?_
    rintro e w3 ⟨b3, h3⟩
    have B3 := Aside0.mk (below_then B2.out B2.out.size b3)
    clear b3 B2 HC2
    rcases h3 with ⟨hne, rfl⟩ | ⟨h0, hb, ub, db, rfl, T⟩
    · obtain ⟨cd, hcd⟩ : ∃ cd, codeM n es = cd := ⟨_, rfl⟩
      rw [hcd] at hne ⊢
      clear hcd
      have n1 : (cd == 0) = false := beq_eq_false_iff_ne.2 hne
      have n2 : (cd != 0) = true := bne_iff_ne.2 hne
      go_wp2
      go_ret
      exact ⟨by first | rfl | simp [n1, n2] | simp [hne], B3.out⟩
    · obtain ⟨m, rfl, hm0, hm8, hbad, hR⟩ := code_zero h0
      rw [Int.toNat_natCast] at T
      have T3 := Aside0.mk T
      have HB := Aside0.mk hbad
      have HRT := Aside0.mk hR
      clear T hbad hR h0
      obtain ⟨h1, h2⟩ := clos_Mk hm8 HB.out
      have hL := lat_clos hm8 HB.out HRT.out
      obtain ⟨ys, hys, hpw⟩ := chain_all hm8 h2 hL
      have HY := Aside0.mk hys
      have HPW := Aside0.mk hpw
      have HLT := Aside0.mk (chainF_lt hys)
      have HLN := Aside0.mk (chainF_len hys)
      have HHB := Aside0.mk (height_bd (ds := (closE m es).2) hm0 (chainF_lt hys) (chainF_len hys))
      have HMO : Aside0 (∀ x y : Nat, x < m → y < m → mostM m (closE m es).1 x y = rch m (natE es) x y) := ⟨fun x y hx hy => most_is hm8 h1 hx hy⟩
      have HAN := Aside0.mk hL.anti
      have HSE : Aside0 (∀ x y, x < m → y < m → seenN (natE es) (fun z => z == x) m y = rch m (natE es) x y) := ⟨fun x y hx hy => seen_is (natE_ok HB.out) hx hy⟩
      clear h1 h2 hL hys hpw HRT
      obtain ⟨us, hus⟩ : ∃ us, (closE m es).1 = us := ⟨_, rfl⟩
      obtain ⟨ds, hds⟩ : ∃ ds, (closE m es).2 = ds := ⟨_, rfl⟩
      rw [hus, hds] at T3
      rw [hus] at HMO
      rw [hds] at HY HHB
      clear hus hds
      go_wp2_with fail
      go_loopw [7] (fun i wr => ∃ k : Nat, i = .int .i64 k ∧ k ≤ m ∧ Aside0 (Below w3.heap.size w3 wr)) (fun i _ => m - (intOf i).toNat)
      case atStart => exact ⟨0, rfl, Nat.zero_le _, ⟨Below.refl _ _⟩⟩
      case round =>
        obtain ⟨k, rfl, hk, D⟩ := hrel
        obtain ⟨wo, rfl⟩ : ∃ wo : World, wo = wr := ⟨_, rfl⟩
        by_cases hkm : k < m
        · have hk8 : k < 8 := by omega
          have N0 := SB.new wo
          obtain ⟨n1, n2⟩ := N0.at_ k hk8
          have Z0 : Aside0 (SW w3 (wo.alloc (.cells (([Value.bool false, Value.bool false, Value.bool false, Value.bool false, Value.bool false, Value.bool false, Value.bool false, Value.bool false].set k (Value.bool true)).toArray) 40)) wo.heap.size (fun x => x == k)) := ⟨⟨⟨by
            rw [blk_new]
            congr 2
            apply Array.ext'
            apply List.ext_getElem
            · simp [boolCells]
            · intro j h1 h2
              have hj : j < 8 := by simpa using h1
              rw [List.getElem_set]
              have e8 : j = 0 ∨ j = 1 ∨ j = 2 ∨ j = 3 ∨ j = 4 ∨ j = 5 ∨ j = 6 ∨ j = 7 := by omega
              by_cases e : k = j
              · subst e; simp [boolCells]
              · have : ¬ j = k := fun h => e h.symm
                rcases e8 with rfl | rfl | rfl | rfl | rfl | rfl | rfl | rfl <;> simp [boolCells, e, this]⟩, below_alloc D.out _, D.out.size⟩⟩
          clear N0
          go_wp2_with fail
          obtain ⟨wz, hwz⟩ : ∃ wz, wo.alloc (.cells (([Value.bool false, Value.bool false, Value.bool false, Value.bool false, Value.bool false, Value.bool false, Value.bool false, Value.bool false].set k (Value.bool true)).toArray) 40) = wz := ⟨_, rfl⟩
          rw [hwz] at Z0 ⊢
          obtain ⟨sb, hsb⟩ : ∃ s, wo.heap.size = s := ⟨_, rfl⟩
          rw [hsb] at Z0 ⊢
          clear hwz hsb n1 n2 D
          go_loopw [9] (fun i wr => ∃ r : Nat, i = .int .i64 r ∧ r ≤ m ∧ Aside0 (SW w3 wr sb (seenN (natE es) (fun x => x == k) r))) (fun i _ => m - (intOf i).toNat)
          case atStart => exact ⟨0, rfl, Nat.zero_le _, Z0⟩
          case round =>
            clear Z0
            obtain ⟨r, rfl, hr, Z⟩ := hrel
            obtain ⟨wp, rfl⟩ : ∃ wo : World, wo = wr := ⟨_, rfl⟩
            by_cases hrm : r < m
            · have HNX : Aside0 (seenN (natE es) (fun x => x == k) (r + 1) = es.foldl seenI (seenN (natE es) (fun x => x == k) r)) := ⟨by rw [seenI_fold]; rfl⟩
              obtain ⟨S0, hS0⟩ : ∃ s, seenN (natE es) (fun x => x == k) r = s := ⟨_, rfl⟩
              rw [hS0] at Z HNX
              clear hS0
              go_wp2_with fail
              go_loopw [10] (fun i wr => ∃ q : Nat, i = .int .i64 q ∧ q ≤ es.length ∧ Aside0 (SW w3 wr sb ((es.take q).foldl seenI S0))) (fun i _ => es.length - (intOf i).toNat)
              case atStart => exact ⟨0, rfl, Nat.zero_le _, Z⟩
              case round =>
                clear Z
                obtain ⟨q, rfl, hq, Z⟩ := hrel
                obtain ⟨wi, rfl⟩ : ∃ wi : World, wi = wr := ⟨_, rfl⟩
                by_cases hqe : q < es.length
                · have HFS := Aside0.mk (fold_takeE seenI S0 es q hqe)
                  obtain ⟨⟨g1, g2⟩, g3, g4⟩ := good_of HB.out hqe
                  obtain ⟨ad, eA, e0, e1⟩ := at_E (Kd.C_below HC.out (below_then B3.out B3.out.size Z.out.bel)) q hqe
                  subst eA
                  obtain ⟨S, hS⟩ : ∃ s, (es.take q).foldl seenI S0 = s := ⟨_, rfl⟩
                  rw [hS] at Z HFS
                  clear hS
                  have HV : Aside0 (seenI S (rdE es q) = if S (rdE es q).1.toNat then fun x => S x || x == (rdE es q).2.toNat else S) := ⟨rfl⟩
                  obtain ⟨a, ha⟩ : ∃ a, (rdE es q).1 = a := ⟨_, rfl⟩
                  obtain ⟨b, hb2⟩ : ∃ a, (rdE es q).2 = a := ⟨_, rfl⟩
                  rw [ha] at g1 g2 e0
                  rw [hb2] at g3 g4 e1
                  rw [ha, hb2] at HV
                  clear ha hb2
                  obtain ⟨a, rfl⟩ := Int.eq_ofNat_of_zero_le g1
                  obtain ⟨b, rfl⟩ := Int.eq_ofNat_of_zero_le g3
                  rw [Int.toNat_natCast, Int.toNat_natCast] at HV
                  have ha : a < 8 := by omega
                  have hb3 : b < 8 := by omega
                  clear g1 g2 g3 g4
                  obtain ⟨s0, _⟩ := Z.out.row.at_ a ha
                  obtain ⟨s1, s2⟩ := Z.out.row.at_ b hb3
                  obtain ⟨t, ht⟩ : ∃ t, S a = t := ⟨_, rfl⟩
                  rw [ht] at s0 HV
                  clear ht
                  cases t with
                  | false =>
                    have E : Aside0 ((es.take (q + 1)).foldl seenI S0 = S) := ⟨by rw [HFS.out, HV.out]; rfl⟩
                    clear HFS HV s1 s2
                    go_wp2_with fail
                    go_roundw
                    case rel => exact ⟨q + 1, by go_num, by omega, ⟨by rw [E.out]; exact Z.out⟩⟩
                    case measure => simp [intOf]; omega
                  | true =>
                    have E : Aside0 ((es.take (q + 1)).foldl seenI S0 = fun x => S x || x == b) := ⟨by rw [HFS.out, HV.out]; rfl⟩
                    have Z2 := Aside0.mk (Z.out.put b)
                    clear HFS HV
                    go_wp2_with fail
                    go_roundw
                    case rel => exact ⟨q + 1, by go_num, by omega, ⟨by rw [E.out]; exact Z2.out⟩⟩
                    case measure => simp [intOf]; omega
                · have E : Aside0 (seenN (natE es) (fun x => x == k) (r + 1) = (es.take q).foldl seenI S0) := ⟨by rw [HNX.out, List.take_of_length_le (by omega)]⟩
                  go_wp2_with fail
                  go_roundw
                  case rel => exact ⟨r + 1, by go_num, by omega, ⟨by rw [E.out]; exact Z.out⟩⟩
                  case measure => simp [intOf]; omega
            · have HSK : Aside0 (∀ y, y < m → seenN (natE es) (fun x => x == k) r y = rch m (natE es) k y) := ⟨fun y hy => by
                obtain rfl : r = m := by omega
                exact HSE.out k y hkm hy⟩
              obtain ⟨S, hS⟩ : ∃ s, seenN (natE es) (fun x => x == k) r = s := ⟨_, rfl⟩
              rw [hS] at Z HSK
              clear hS
              go_wp2_with fail
              go_loopw [11] (fun i wr => ∃ b : Nat, i = .int .i64 b ∧ b ≤ m ∧ Aside0 (SW w3 wr sb S)) (fun i _ => m - (intOf i).toNat)
              case atStart => exact ⟨0, rfl, Nat.zero_le _, Z⟩
              case round =>
                clear Z
                obtain ⟨b, rfl, hb4, Z⟩ := hrel
                obtain ⟨wi, rfl⟩ : ∃ wi : World, wi = wr := ⟨_, rfl⟩
                by_cases hbm : b < m
                · obtain ⟨s0, _⟩ := Z.out.row.at_ b (by omega)
                  have H20 : Aside0 (∀ W, Drawn0 wi W → ∀ x y : Int, Calls Try.prog 20 #[.pointer (some ⟨hb, 0, none⟩), .int .i64 x, .int .i64 y] W fun e w' => e = .returned (.bool (mostM m us x y)) ∧ w' = W) := ⟨fun W d x y => (most_any ((T3.out.below Z.out.bel).drawn d) x y).mono (fun _ _ h => ⟨h.1, h.2.symm⟩)⟩
                  have m1 := HMO.out k b hkm hbm
                  have m2 := HMO.out b k hbm hkm
                  have HA : Aside0 (rch m (natE es) k b = true → k ≠ b → rch m (natE es) b k = false) := ⟨fun h1 h2 => by
                    cases h3 : rch m (natE es) b k with
                    | false => rfl
                    | true => exact absurd (HAN.out k b hkm hbm h1 h3) h2⟩
                  rw [HSK.out b hbm] at s0
                  obtain ⟨t, ht⟩ : ∃ t, rch m (natE es) k b = t := ⟨_, rfl⟩
                  obtain ⟨u, hu⟩ : ∃ t, rch m (natE es) b k = t := ⟨_, rfl⟩
                  rw [ht] at m1 s0 HA
                  rw [hu] at m2 HA
                  clear ht hu
                  by_cases hkb : k = b
                  · subst hkb
                    clear m2
                    cases t
                    all_goals
                      go_wp2_with fail
                      go_quiet ((go_at_call 20; exact (H20.out _ (Drawn0.step (Drawn0.refl wi) _) _ _).mono (fun _ _ h => ⟨h.1, _, h.2⟩)))
                      go_wp2
                      go_roundw
                      case rel => exact ⟨k + 1, by go_num, by omega, ⟨Z.out.drawn (Drawn0.step (Drawn0.refl wi) nq)⟩⟩
                      case measure => simp [intOf]; omega
                  · have k1 : ((k : Int) == (b : Int)) = false := beq_eq_false_iff_ne.2 (by omega)
                    have k2 : ¬ (k : Int) = b := by omega
                    have k3 : ((k : Int) != (b : Int)) = true := by simp [k2]
                    have HU : Aside0 (t = true → u = false) := ⟨fun h => HA.out h hkb⟩
                    clear HA
                    cases t with
                    | false =>
                      go_wp2_with fail
                      go_quiet ((go_at_call 20; exact (H20.out _ (Drawn0.step (Drawn0.refl wi) _) _ _).mono (fun _ _ h => ⟨h.1, _, h.2⟩)))
                      go_wp2
                      go_roundw
                      case rel => exact ⟨b + 1, by go_num, by omega, ⟨Z.out.drawn (Drawn0.step (Drawn0.refl wi) nq)⟩⟩
                      case measure => simp [intOf]; omega
                    | true =>
                      obtain rfl := HU.out rfl
                      go_wp2_with fail
                      go_quiet ((go_at_call 20; exact (H20.out _ (Drawn0.step (Drawn0.refl wi) _) _ _).mono (fun _ _ h => ⟨h.1, _, h.2⟩)))
                      go_wp2
                      go_roundw
                      case rel => exact ⟨b + 1, by go_num, by omega, ⟨Z.out.drawn (Drawn0.step (Drawn0.refl wi) nq)⟩⟩
                      case measure => simp [intOf]; omega
                · go_wp2_with fail
                  go_roundw
                  case rel => exact ⟨k + 1, by go_num, by omega, ⟨Z.out.bel⟩⟩
                  case measure => simp [intOf]; omega
        · have T4 := Aside0.mk (T3.out.below D.out)
          have B4 := Aside0.mk (below_then B3.out B3.out.size D.out)
          clear D T3 B3
          go_wp2_with fail
          refine (chain_any T4.out HY.out).mono ?_
          rintro e w5 ⟨v, rfl, r5, b5⟩
          obtain ⟨A5, c5, hv5, hl5, hC5⟩ := Kd.R_reads r5
          rw [HLN.out] at hv5 hC5 hl5
          subst hv5
          have T5 := Aside0.mk (T4.out.below b5)
          have B5 := Aside0.mk (below_then B4.out B4.out.size b5)
          have C5 := Aside0.mk hC5
          clear r5 b5 hC5 T4 B4
          obtain ⟨hh1, hh2⟩ := HHB.out
          obtain ⟨h, hh⟩ : ∃ h, heightM m ds ys = h := ⟨_, rfl⟩
          rw [hh] at hh1 hh2
          have HH := Aside0.mk hh
          clear hh
          go_wp2_with fail
          refine (height_any T5.out hm0 HY.out).mono ?_
          rintro e w6 ⟨rfl, b6⟩
          have T6 := Aside0.mk (T5.out.below b6)
          have B6 := Aside0.mk (below_then B5.out B5.out.size b6)
          have C6 := Aside0.mk (Kd.C_below C5.out b6)
          clear b6 T5 B5 C5
          rw [HH.out]
          go_wp2_with fail
          refine (height_any T6.out hm0 HY.out).mono ?_
          rintro e w7 ⟨rfl, b7⟩
          have T7 := Aside0.mk (T6.out.below b7)
          have B7 := Aside0.mk (below_then B6.out B6.out.size b7)
          have C7 := Aside0.mk (Kd.C_below C6.out b7)
          clear b7 T6 B6 C6
          rw [HH.out]
          go_wp2_with fail
          clear hh1 hh2
          go_loopw [13] (fun i wr => ∃ p : Nat, i = .int .i64 p ∧ p ≤ m ∧ Aside0 (Drawn0 w7 wr)) (fun i _ => m - (intOf i).toNat)
          case atStart => exact ⟨0, rfl, Nat.zero_le _, ⟨Drawn0.refl _⟩⟩
          case round =>
            obtain ⟨p, rfl, hp, D⟩ := hrel
            obtain ⟨wp, rfl⟩ : ∃ wp : World, wp = wr := ⟨_, rfl⟩
            by_cases hpm : p < m
            · go_wp2_with fail
              go_loopw [14] (fun i wr => ∃ j : Nat, i = .int .i64 j ∧ j ≤ p ∧ Aside0 (Drawn0 w7 wr)) (fun i _ => p - (intOf i).toNat)
              case atStart => exact ⟨0, rfl, Nat.zero_le _, D⟩
              case round =>
                obtain ⟨j, rfl, hj, D1⟩ := hrel
                obtain ⟨wi, rfl⟩ : ∃ wi : World, wi = wr := ⟨_, rfl⟩
                by_cases hjp : j < p
                · have hp1 : p < ys.length := by rw [HLN.out]; exact hpm
                  have hj1 : j < ys.length := by omega
                  have HP : Aside0 (rd ys j ≠ rd ys p ∧ rch m (natE es) (rd ys p).toNat (rd ys j).toNat = false) := ⟨by
                    have := List.pairwise_iff_getElem.1 HPW.out j p hj1 hp1 hjp
                    have e1 : rd ys (j : Nat) = ys[j] := by simp [rd, List.getD_eq_getElem?_getD, hj1]
                    have e2 : rd ys (p : Nat) = ys[p] := by simp [rd, List.getD_eq_getElem?_getD, hp1]
                    rw [e1, e2]
                    exact this⟩
                  have hx := HLT.out _ (rd_mem hp1)
                  have hy := HLT.out _ (rd_mem hj1)
                  obtain ⟨ad, eA, c0⟩ := Kd.at_int (Kd.C_below C7.out D1.out.below) (p : Nat) (by omega) (by omega)
                  obtain ⟨ad2, eA2, c1⟩ := Kd.at_int (Kd.C_below C7.out D1.out.below) (j : Nat) (by omega) (by omega)
                  subst eA
                  obtain rfl : ad = ad2 := by injection eA2
                  rw [Int.toNat_natCast] at c0 c1
                  clear eA2 hp1 hj1
                  obtain ⟨x, hx2⟩ : ∃ x, rd ys p = x := ⟨_, rfl⟩
                  obtain ⟨y, hy2⟩ : ∃ x, rd ys j = x := ⟨_, rfl⟩
                  rw [hx2] at c0 hx HP
                  rw [hy2] at c1 hy HP
                  clear hx2 hy2
                  obtain ⟨x, rfl⟩ := Int.eq_ofNat_of_zero_le hx.1
                  obtain ⟨y, rfl⟩ := Int.eq_ofNat_of_zero_le hy.1
                  have x1 : x < m := by omega
                  have y1 : y < m := by omega
                  have HP2 := HP.out
                  rw [Int.toNat_natCast, Int.toNat_natCast] at HP2
                  have k2 : ¬ (x : Int) = y := fun h => HP2.1 h.symm
                  have k1 : ((x : Int) == (y : Int)) = false := beq_eq_false_iff_ne.2 k2
                  have m1 : mostM m us x y = false := (HMO.out x y x1 y1).trans HP2.2
                  have H20 : Aside0 (∀ W, Drawn0 wi W → ∀ x y : Int, Calls Try.prog 20 #[.pointer (some ⟨hb, 0, none⟩), .int .i64 x, .int .i64 y] W fun e w' => e = .returned (.bool (mostM m us x y)) ∧ w' = W) := ⟨fun W d x y => (most_any ((T7.out.drawn D1.out).drawn d) x y).mono (fun _ _ h => ⟨h.1, h.2.symm⟩)⟩
                  clear HP HP2 hx hy
                  go_wp2_with fail
                  go_quiet ((go_at_call 20; exact (H20.out _ (Drawn0.step (Drawn0.refl wi) _) _ _).mono (fun _ _ h => ⟨h.1, _, h.2⟩)))
                  go_wp2
                  go_roundw
                  case rel => exact ⟨j + 1, by go_num, by omega, ⟨Drawn0.step D1.out nq⟩⟩
                  case measure => simp [intOf]; omega
                · go_wp2_with fail
                  go_roundw
                  case rel => exact ⟨p + 1, by go_num, by omega, D1⟩
                  case measure => simp [intOf]; omega
            · go_wp2_with fail
              go_ret
              exact ⟨rfl, below_then B7.out B7.out.size D.out.below⟩
end Go.Proofs.Ytnjfiinnidklaaa.Lat
