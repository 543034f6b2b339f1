import Derived.Test.YtpbaebjohioijaaBB
import Derived.Test.YtpbaebjohioijaaJ
namespace Go.Proofs.Ytpbaebjohioijaa.Lat
open Go.RowKit Go.Proofs.YtpbaebjohioijaaW.PrintWords Go.Proofs.YtpbaebjohioijaaW.PrintLast Go.Proofs.YtpbaebjohioijaaW.PrintMore Go.Proofs.Ytpbaebjohioijaa.PSolveLeast
set_option linter.unusedVariables false
set_option linter.unusedSimpArgs false

/-! ### Closed -/
def setM (M : Nat → Nat → Bool) (a b : Nat) : Nat → Nat → Bool := fun x y => M x y || (x == a && y == b)
def idM (k : Nat) : Nat → Nat → Bool := fun x y => x == y && decide (x < k)
def edgeM (M : Nat → Nat → Bool) (e : Int × Int) : Nat → Nat → Bool := setM M e.1.toNat e.2.toNat
def fwIn (k i : Nat) (M : Nat → Nat → Bool) (j : Nat) : Nat → Nat → Bool := if M i k && M k j then setM M i j else M
def fwRow (n k : Nat) (M : Nat → Nat → Bool) (i : Nat) : Nat → Nat → Bool := (List.range n).foldl (fwIn k i) M
def fwK (n : Nat) (M : Nat → Nat → Bool) (k : Nat) : Nat → Nat → Bool := (List.range n).foldl (fwRow n k) M
def closG (n : Nat) (es : List (Int × Int)) : Nat → Nat → Bool := (List.range n).foldl (fwK n) (es.foldl edgeM (idM n))
theorem range_fold {α : Type} (f : α → Nat → α) (a : α) (k : Nat) : (List.range (k + 1)).foldl f a = f ((List.range k).foldl f a) k := by
  rw [List.range_succ, List.foldl_append]
  rfl
theorem bs_snoc_lt {bs : List Nat} {b i : Nat} (h : i < bs.length) : bsAt (bs ++ [b]) i = bsAt bs i := by
  simp [bsAt, List.getD_eq_getElem?_getD, List.getElem?_append_left h]
theorem bs_snoc {bs : List Nat} {b : Nat} : bsAt (bs ++ [b]) bs.length = b := by
  simp [bsAt, List.getD_eq_getElem?_getD]
theorem LQ.grow {wo w9 : World} {base n k : Nat} {v v9 : Value} {bs : List Nat} (Q : LQ wo base v bs n (idM k)) (hlen : bs.length = k) (hbase : base ≤ wo.heap.size)
    (hv : (kSl n).R 67 w9 base (fun q => q ∉ bs ++ [wo.heap.size]) v9 (bs ++ [wo.heap.size])) (hg : (wo.alloc (.cells (madeCells #[.bool false] n) 4)).grownBy w9 v.ownBlock) :
    LQ w9 base v9 (bs ++ [wo.heap.size]) n (idM k) := by
  have hown : ∀ q, v.ownBlock = some q → q ∉ bs ∧ q < wo.heap.size := fun q hq => by
    have := (Kd.R_bound Q.row).1 q hq
    exact ⟨this.1, this.2.2.1⟩
  have hlt : ∀ b ∈ bs, b < wo.heap.size := fun b hb => by
    obtain ⟨i, hi, rfl⟩ := List.getElem_of_mem hb
    have h4 := blk_lt (Q.inn i hi).1
    have h5 : bsAt bs i = bs[i] := by simp [bsAt, List.getD_eq_getElem?_getD, hi]
    omega
  refine ⟨hv, fun i hi => ?_, ?_⟩
  · rw [List.length_append, List.length_singleton] at hi
    rcases Nat.lt_or_ge i bs.length with h1 | h1
    · rw [bs_snoc_lt h1]
      refine ⟨blk_grown (blk_alloc (Q.inn i h1).1 _) hg ?_, (Q.inn i h1).2⟩
      intro e
      exact (hown _ e.symm).1 (bs_mem h1)
    · obtain rfl : i = bs.length := by omega
      rw [bs_snoc]
      refine ⟨blk_grown (?_ : _ = _) hg ?_, hbase⟩
      · rw [blk_new]
        congr 2
        apply Array.ext'
        apply List.ext_getElem
        · simp [boolN, madeCells]
        · intro j h1 h2
          simp [boolN, madeCells, Nat.mod_one, idM, hlen]
      · intro e
        have := (hown _ e.symm).2
        omega
  · rw [List.nodup_append]
    refine ⟨Q.nd, by simp, fun a ha b hb => ?_⟩
    have := hlt a ha
    simp at hb
    omega
set_option maxHeartbeats 8000000 in
set_option maxRecDepth 100000 in
theorem closed_any (n : Nat) (hn0 : 0 < n) (hn : n ≤ 8) (A : Option Addr) (c : Nat) (es : List (Int × Int)) (w : World) (hr : Kd.C KE w A es.length es) (hl : es.length ≤ 1000000) (hbad : badE n es = false) :
    Calls Try.prog 43 #[.int .i64 n, .slice A es.length c] w fun e w' => ∃ v bs, e = .returned v ∧ LQ w' w.heap.size v bs n (closG n es) ∧ bs.length = n ∧ Below w.heap.size w w' := by
  have HC := Aside0.mk hr
  have HB := Aside0.mk hbad
  have hk := print_make_of (P := Try.prog) 67 4 (.bool false) 1 Try.underlying67 info4 rfl (by decide) n (by omega)
  clear hr hbad
  have L0 : Aside0 (LQ (w.alloc (.cells #[] 67)) w.heap.size (.slice (some ⟨w.heap.size, 0, none⟩) 0 0) [] n (idM 0)) := ⟨⟨Kd.R_mono (lit_nil (kSl n) 67 w w.heap.size (Nat.le_refl _)) (fun _ _ => by simp), fun i hi => absurd hi (by simp), List.nodup_nil⟩⟩
  have D0 := Aside0.mk (below_alloc (Below.refl w.heap.size w) (.cells #[] 67))
  go_enter Try.func43, Try.ntmps43
  go_wp2_with fail
  go_loopw [5, 6] (fun v i wr => ∃ (k : Nat) (bs : List Nat), i = .int .i64 k ∧ k ≤ n ∧ Aside0 (bs.length = k) ∧ Aside0 (LQ wr w.heap.size v bs n (idM k)) ∧ Aside0 (Below w.heap.size w wr)) (fun v i _ => n - (intOf i).toNat)
  case atStart => exact ⟨0, [], rfl, Nat.zero_le _, ⟨rfl⟩, L0, D0⟩
  case round =>
    clear L0 D0
    obtain ⟨k, bs, rfl, hkn, HL, Q, B⟩ := hrel
    obtain ⟨A1, c1, rfl, hl1, hC1⟩ := Kd.R_reads Q.out.row
    rw [HL.out] at Q hl1 ⊢
    clear hC1
    obtain ⟨wo, rfl⟩ : ∃ wo : World, wo = wr := ⟨_, rfl⟩
    by_cases hlt : k < n
    · have B1 := Aside0.mk (below_alloc B.out (.cells (madeCells #[.bool false] n) 4))
      have R1 : Aside0 ((kSl n).R 67 (wo.alloc (.cells (madeCells #[.bool false] n) 4)) w.heap.size (fun k => k ∉ bs ++ [wo.heap.size]) (.slice A1 k c1) bs) := ⟨by
        have r := Kd.R_old (Kd.R_bound Q.out.row) (below_alloc (Below.refl wo.heap.size wo) (.cells (madeCells #[.bool false] n) 4))
        exact Kd.R_mono r (fun q hq => by
          have h1 := hq.1.1
          have h2 := hq.1.2.2.1
          simp only [List.mem_append, List.mem_singleton]
          rintro (h3 | h3)
          · exact h1 h3
          · omega)⟩
      have HF : Aside0 (∀ q, (wo.alloc (.cells (madeCells #[.bool false] n) 4)).heap.size ≤ q → q ∉ bs ++ [wo.heap.size]) := ⟨fun q hq => by
        have hs : (wo.alloc (.cells (madeCells #[.bool false] n) 4)).heap.size = wo.heap.size + 1 := by simp
        rw [hs] at hq
        simp only [List.mem_append, List.mem_singleton]
        rintro (h3 | h3)
        · obtain ⟨i, hi, rfl⟩ := List.getElem_of_mem h3
          have h4 := blk_lt (Q.out.inn i hi).1
          have h5 : bsAt bs i = bs[i] := by simp [bsAt, List.getD_eq_getElem?_getD, hi]
          omega
        · omega⟩
      go_wp2_with (at_builtin; go_loud (refine Kd.R_append (kSl n) w.heap.size rfl (.tmp 17) (.tmp 20) 29 67 _ 24 rfl Try.underlying29 info67 rfl Nat.one_pos (by decide) (.slice A1 k c1) bs wo.heap.size [.slice (some ⟨wo.heap.size, 0, none⟩) n n] (fun q => q ∉ bs ++ [wo.heap.size]) (fun _ => False) rfl (by simp [Act.eval]) rfl (fun _ h => h.elim) HF.out R1.out B1.out B1.out.size (by rw [HL.out]; omega) ?_; intro v9 w9 hv9 hb9 hg9 hat9; have Q9 := Aside0.mk (Q.out.grow HL.out B.out.size hv9 hg9); have B9 := Aside0.mk hb9; clear hv9 hb9 hg9 hat9; obtain ⟨A9, c9, e9, hl9, hC9⟩ := Kd.R_reads Q9.out.row; have hL9 : (bs ++ [wo.heap.size]).length = k + 1 := (by rw [List.length_append, HL.out]; rfl); rw [hL9] at e9 hl9; subst e9; clear hC9; obtain ⟨ad, eA, o1⟩ := Q9.out.out_at rfl (i := k) (by omega); subst eA; obtain ⟨i1, i2⟩ := Q9.out.inn_at (i := k) (j := k) (by omega) hlt; have P9 := Aside0.mk (Q9.out.put (i := k) (j := k) (by omega)); have H9 : Aside0 (w.heap.size ≤ bsAt (bs ++ [wo.heap.size]) k) := ⟨(Q9.out.inn k (by omega)).2⟩; have HL9 := Aside0.mk hL9; clear hL9))
      have B10 : Aside0 (Below w.heap.size w (w9.setCell ⟨bsAt (bs ++ [wo.heap.size]) k, k, none⟩ (.bool true))) := ⟨below_set B9.out H9.out⟩
      go_roundw
      case rel => exact ⟨k + 1, bs ++ [wo.heap.size], by go_num, by omega, HL9, ⟨P9.out.ext (fun x hx y hy => by simp [idM]; rw [Bool.eq_iff_iff]; simp; omega)⟩, B10⟩
      case measure => simp [intOf]; omega
    · have hkn2 : k = n := by omega
      subst hkn2
      obtain ⟨ad, eA, _⟩ := Q.out.out_at rfl (i := 0) (by rw [HL.out]; exact hn0)
      subst eA
      have PUT : Aside0 (∀ (W : World) (M : Nat → Nat → Bool) (a b : Nat), LQ W w.heap.size (.slice (some ad) k c1) bs k M → Below w.heap.size w W → a < k → LQ (W.setCell ⟨bsAt bs a, b, none⟩ (.bool true)) w.heap.size (.slice (some ad) k c1) bs k (setM M a b) ∧ Below w.heap.size w (W.setCell ⟨bsAt bs a, b, none⟩ (.bool true))) := ⟨fun W M a b q B h => ⟨q.put (by rw [HL.out]; exact h), below_set B (q.inn a (by rw [HL.out]; exact h)).2⟩⟩
      have GET : Aside0 (∀ (W : World) (M : Nat → Nat → Bool) (a b : Nat), LQ W w.heap.size (.slice (some ad) k c1) bs k M → a < k → b < k → W.cell? (ad.add a) = some (.slice (some ⟨bsAt bs a, 0, none⟩) k k) ∧ W.cell? ⟨bsAt bs a, b, none⟩ = some (.bool (M a b)) ∧ W.frozen? ⟨bsAt bs a, b, none⟩ = false) := ⟨fun W M a b q h1 h2 => by
        obtain ⟨ad2, e2, o1⟩ := q.out_at rfl (i := a) (by rw [HL.out]; exact h1)
        obtain rfl : ad = ad2 := by injection e2
        obtain ⟨i1, i2⟩ := q.inn_at (i := a) (j := b) (by rw [HL.out]; exact h1) h2
        exact ⟨o1, i1, i2⟩⟩
      go_wp2_with fail
      go_loopw [7] (fun i wr => ∃ q : Nat, i = .int .i64 q ∧ q ≤ es.length ∧ Aside0 (LQ wr w.heap.size (.slice (some ad) k c1) bs k ((es.take q).foldl edgeM (idM k))) ∧ Aside0 (Below w.heap.size w wr)) (fun i _ => es.length - (intOf i).toNat)
      case atStart => exact ⟨0, rfl, Nat.zero_le _, Q, B⟩
      case round =>
        clear Q B
        obtain ⟨q, rfl, hq, Q, B⟩ := hrel
        obtain ⟨wi, rfl⟩ : ∃ wi : World, wi = wr := ⟨_, rfl⟩
        by_cases hqe : q < es.length
        · have HFS := Aside0.mk (fold_takeE edgeM (idM k) es q hqe)
          obtain ⟨⟨g1, g2⟩, g3, g4⟩ := good_of HB.out hqe
          obtain ⟨ae, eA, e0, e1⟩ := at_E (Kd.C_below HC.out B.out) q hqe
          subst eA
          obtain ⟨M, hM⟩ : ∃ s, (es.take q).foldl edgeM (idM k) = s := ⟨_, rfl⟩
          rw [hM] at Q HFS
          clear hM
          have HV : Aside0 (edgeM M (rdE es q) = setM M (rdE es q).1.toNat (rdE es q).2.toNat) := ⟨rfl⟩
          obtain ⟨a, ha⟩ : ∃ a, (rdE es q).1 = a := ⟨_, rfl⟩
          obtain ⟨b, hb2⟩ : ∃ a, (rdE es q).2 = a := ⟨_, rfl⟩
          rw [ha] at g1 g2 e0
          rw [hb2] at g3 g4 e1
          rw [ha, hb2] at HV
          clear ha hb2
          obtain ⟨a, rfl⟩ := Int.eq_ofNat_of_zero_le g1
          obtain ⟨b, rfl⟩ := Int.eq_ofNat_of_zero_le g3
          rw [Int.toNat_natCast, Int.toNat_natCast] at HV
          have ha : a < k := by omega
          have hb3 : b < k := by omega
          clear g1 g2 g3 g4
          obtain ⟨o1, i1, i2⟩ := GET.out wi M a b Q.out ha hb3
          obtain ⟨p1, p2⟩ := PUT.out wi M a b Q.out B.out ha
          have Q2 := Aside0.mk p1
          have B2 := Aside0.mk p2
          clear p1 p2
          go_wp2_with fail
          go_region
          all_goals (
            clear o1 i1 i2
            go_wp2_with fail
            go_roundw
            case rel => exact ⟨q + 1, by go_num, by omega, ⟨by rw [HFS.out, HV.out]; exact Q2.out.below (below_drew (Below.refl _ _))⟩, ⟨below_drew B2.out⟩⟩
            case measure => simp [intOf]; omega)
        · have E : Aside0 ((es.take q).foldl edgeM (idM k) = es.foldl edgeM (idM k)) := ⟨by rw [List.take_of_length_le (by omega)]⟩
          rw [E.out] at Q
          obtain ⟨M0, hM0⟩ : ∃ M, es.foldl edgeM (idM k) = M := ⟨_, rfl⟩
          have HM0 := Aside0.mk hM0
          rw [hM0] at Q
          clear hM0 E
          go_wp2_with fail
          go_loopw [8] (fun i wr => ∃ t : Nat, i = .int .i64 t ∧ t ≤ k ∧ Aside0 (LQ wr w.heap.size (.slice (some ad) k c1) bs k ((List.range t).foldl (fwK k) M0)) ∧ Aside0 (Below w.heap.size w wr)) (fun i _ => k - (intOf i).toNat)
          case atStart => exact ⟨0, rfl, Nat.zero_le _, Q, B⟩
          case round =>
            clear Q B
            obtain ⟨t, rfl, ht, Q, B⟩ := hrel
            obtain ⟨wt, rfl⟩ : ∃ wi : World, wi = wr := ⟨_, rfl⟩
            by_cases htk : t < k
            · have HF1 := Aside0.mk (range_fold (fwK k) M0 t)
              obtain ⟨M1, hM1⟩ : ∃ M, (List.range t).foldl (fwK k) M0 = M := ⟨_, rfl⟩
              rw [hM1] at Q HF1
              clear hM1
              go_wp2_with fail
              go_loopw [9] (fun i wr => ∃ x : Nat, i = .int .i64 x ∧ x ≤ k ∧ Aside0 (LQ wr w.heap.size (.slice (some ad) k c1) bs k ((List.range x).foldl (fwRow k t) M1)) ∧ Aside0 (Below w.heap.size w wr)) (fun i _ => k - (intOf i).toNat)
              case atStart => exact ⟨0, rfl, Nat.zero_le _, Q, B⟩
              case round =>
                clear Q B
                obtain ⟨x, rfl, hx, Q, B⟩ := hrel
                obtain ⟨wx, rfl⟩ : ∃ wi : World, wi = wr := ⟨_, rfl⟩
                by_cases hxk : x < k
                · have HF2 := Aside0.mk (range_fold (fwRow k t) M1 x)
                  obtain ⟨M2, hM2⟩ : ∃ M, (List.range x).foldl (fwRow k t) M1 = M := ⟨_, rfl⟩
                  rw [hM2] at Q HF2
                  clear hM2
                  go_wp2_with fail
                  go_loopw [10] (fun i wr => ∃ y : Nat, i = .int .i64 y ∧ y ≤ k ∧ Aside0 (LQ wr w.heap.size (.slice (some ad) k c1) bs k ((List.range y).foldl (fwIn t x) M2)) ∧ Aside0 (Below w.heap.size w wr)) (fun i _ => k - (intOf i).toNat)
                  case atStart => exact ⟨0, rfl, Nat.zero_le _, Q, B⟩
                  case round =>
                    clear Q B
                    obtain ⟨y, rfl, hy, Q, B⟩ := hrel
                    obtain ⟨wy, rfl⟩ : ∃ wi : World, wi = wr := ⟨_, rfl⟩
                    by_cases hyk : y < k
                    · have HF3 := Aside0.mk (range_fold (fwIn t x) M2 y)
                      obtain ⟨M3, hM3⟩ : ∃ M, (List.range y).foldl (fwIn t x) M2 = M := ⟨_, rfl⟩
                      rw [hM3] at Q HF3
                      clear hM3
                      have HV : Aside0 (fwIn t x M3 y = if M3 x t && M3 t y then setM M3 x y else M3) := ⟨rfl⟩
                      obtain ⟨o1, i1, _⟩ := GET.out wy M3 x t Q.out hxk htk
                      obtain ⟨o2, i2, _⟩ := GET.out wy M3 t y Q.out htk hyk
                      obtain ⟨_, i3, i4⟩ := GET.out wy M3 x y Q.out hxk hyk
                      obtain ⟨p1, p2⟩ := PUT.out wy M3 x y Q.out B.out hxk
                      have Q2 := Aside0.mk p1
                      have B2 := Aside0.mk p2
                      clear p1 p2
                      obtain ⟨u1, hu1⟩ : ∃ u, M3 x t = u := ⟨_, rfl⟩
                      obtain ⟨u2, hu2⟩ : ∃ u, M3 t y = u := ⟨_, rfl⟩
                      rw [hu1] at i1 HV
                      rw [hu2] at i2 HV
                      clear hu1 hu2
                      cases u1 with
                      | false =>
                        have E : Aside0 ((List.range (y + 1)).foldl (fwIn t x) M2 = M3) := ⟨by rw [HF3.out, HV.out]; rfl⟩
                        clear HF3 HV
                        go_wp2_with fail
                        go_roundw
                        case rel => exact ⟨y + 1, by go_num, by omega, ⟨by rw [E.out]; exact Q.out⟩, B⟩
                        case measure => simp [intOf]; omega
                      | true =>
                        cases u2 with
                        | false =>
                          have E : Aside0 ((List.range (y + 1)).foldl (fwIn t x) M2 = M3) := ⟨by rw [HF3.out, HV.out]; rfl⟩
                          clear HF3 HV
                          go_wp2_with fail
                          go_roundw
                          case rel => exact ⟨y + 1, by go_num, by omega, ⟨by rw [E.out]; exact Q.out⟩, B⟩
                          case measure => simp [intOf]; omega
                        | true =>
                          have E : Aside0 ((List.range (y + 1)).foldl (fwIn t x) M2 = setM M3 x y) := ⟨by rw [HF3.out, HV.out]; rfl⟩
                          clear HF3 HV
                          go_wp2_with fail
                          go_roundw
                          case rel => exact ⟨y + 1, by go_num, by omega, ⟨by rw [E.out]; exact Q2.out⟩, B2⟩
                          case measure => simp [intOf]; omega
                    · have E : Aside0 ((List.range y).foldl (fwIn t x) M2 = fwRow k t M2 x) := ⟨by
                        obtain rfl : y = k := by omega
                        rfl⟩
                      go_wp2_with fail
                      go_roundw
                      case rel => exact ⟨x + 1, by go_num, by omega, ⟨by rw [HF2.out, ← E.out]; exact Q.out⟩, B⟩
                      case measure => simp [intOf]; omega
                · have E : Aside0 ((List.range x).foldl (fwRow k t) M1 = fwK k M1 t) := ⟨by
                    obtain rfl : x = k := by omega
                    rfl⟩
                  go_wp2_with fail
                  go_roundw
                  case rel => exact ⟨t + 1, by go_num, by omega, ⟨by rw [HF1.out, ← E.out]; exact Q.out⟩, B⟩
                  case measure => simp [intOf]; omega
            · have E : Aside0 ((List.range t).foldl (fwK k) M0 = closG k es) := ⟨by
                obtain rfl : t = k := by omega
                rw [closG, HM0.out]⟩
              go_wp2_with fail
              go_ret
              exact ⟨_, bs, rfl, by rw [← E.out]; exact Q.out, HL.out, B.out⟩
end Go.Proofs.Ytpbaebjohioijaa.Lat
