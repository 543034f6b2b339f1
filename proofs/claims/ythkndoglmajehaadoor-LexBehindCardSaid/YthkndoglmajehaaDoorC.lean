import Derived.Test.YthkndoglmajehaaDoorB
namespace Go.Proofs.YthkndoglmajehaaDoor.Lex
open Go.RowKit Go.Proofs.YthkndoglmajehaaDoorW.PrintWords Go.Proofs.YthkndoglmajehaaDoorW.PrintLast Go.Proofs.YthkndoglmajehaaDoorW.PrintMore Go.Proofs.YthkndoglmajehaaDoor.PLexTokens
set_option linter.unusedVariables false
set_option linter.unusedSimpArgs false

theorem byteIn_any (s : ByteArray) (c : UInt8) (w : World) :
    Calls Tryd.prog 17 #[.string s, .int .u8 (c.toNat : Int)] w fun e w' => ∃ m : Int, e = .returned (.int .i64 m) ∧ decide (0 ≤ m) = s.data.toList.contains c ∧ w = w' := by
  refine (byte_any s (c.toNat : Int) w).mono ?_
  rintro e w' ⟨rfl, rfl⟩
  refine ⟨_, rfl, ?_, rfl⟩
  rw [indexByte_has, Int.toNat_natCast]
  congr 1
  simp
/-! ### The signs of two bytes -/
def twos : List ByteArray := [⟨#[60, 61]⟩, ⟨#[61, 61]⟩, ⟨#[33, 61]⟩]
def isTwo (l : List UInt8) : Bool := twos.any fun t => Lib.hasPrefix l t.data.toList
theorem clos_any (s t : ByteArray) (nb : Nat) (w : World) (hn : w.heap[nb]? = some (.cells #[.string s] 9 (0, 0))) :
    Calls Tryd.prog 38 #[.string t, .pointer (some ⟨nb, 0, none⟩)] w fun e w' => e = .returned (.bool (Lib.hasPrefix s.data.toList t.data.toList)) ∧ w = w' := by
  have cn : w.cell? ⟨nb, 0, none⟩ = some (.string s) := (blk_cell hn 0).trans rfl
  have H := Aside0.mk (Tryd.strings_HasPrefix s t w)
  clear hn
  go_enter Tryd.func38, Tryd.ntmps38
  go_wp2_with (go_at_call 39; refine H.out.mono ?_; rintro e w' ⟨rfl, rfl⟩)
  go_ret
  exact ⟨rfl, rfl⟩
theorem index_any (s : ByteArray) (nb : Nat) (A : Option Addr) (c : Nat) (zs : List ByteArray) (w : World) (hn : w.heap[nb]? = some (.cells #[.string s] 9 (0, 0))) (hr : Kd.C Kd.string w A zs.length zs) (hl : zs.length ≤ 1000000) :
    Calls Tryd.prog 46 #[.slice A zs.length c, .func (.func 38) #[] #[.pointer (some ⟨nb, 0, none⟩)]] w fun e w' => (∃ m : Int, e = .returned (.int .i64 m) ∧ decide (0 ≤ m) = zs.any fun t => Lib.hasPrefix s.data.toList t.data.toList) ∧ Below w.heap.size w w' := by
  have HN := Aside0.mk hn
  have HR := Aside0.mk hr
  clear hn hr
  go_enter Tryd.func46, Tryd.ntmps46
  go_wp2
  go_loopw [8] (fun i wr => ∃ k : Nat, i = .int .i64 k ∧ k ≤ zs.length ∧ Aside0 (∀ j < k, Lib.hasPrefix s.data.toList (rdOf ByteArray.empty zs j).data.toList = false) ∧ Aside0 (Below w.heap.size w wr)) (fun i _ => zs.length - (intOf i).toNat)
  case atStart => exact ⟨0, rfl, Nat.zero_le _, ⟨fun j hj => absurd hj (Nat.not_lt_zero j)⟩, ⟨Below.refl _ _⟩⟩
  case round =>
    obtain ⟨k, rfl, hk, H0, HB⟩ := hrel
    obtain ⟨wi, rfl⟩ : ∃ wi : World, wi = wr := ⟨_, rfl⟩
    by_cases hlt : k < zs.length
    · obtain ⟨ad, eA, c0⟩ := Kd.at_string (Kd.C_below HR.out HB.out) k (by omega) (by omega)
      subst eA
      rw [Int.toNat_natCast] at c0
      obtain ⟨z, hz⟩ : ∃ z, rdOf ByteArray.empty zs k = z := ⟨_, rfl⟩
      rw [hz] at c0
      have HC := Aside0.mk (clos_any s z nb wi (blk_below HN.out HB.out))
      have HZ := Aside0.mk hz
      clear hz
      obtain ⟨t, ht⟩ : ∃ t, Lib.hasPrefix s.data.toList z.data.toList = t := ⟨_, rfl⟩
      have HT := Aside0.mk ht
      rw [ht] at HC
      clear ht
      cases t with
      | false =>
        go_wp2_with fail
        refine HC.out.mono ?_
        rintro e w2 ⟨rfl, rfl⟩
        go_wp2_with fail
        go_roundw
        case rel => exact ⟨k + 1, by go_num, by omega, ⟨fun j hj => by
          by_cases e : j = k
          · rw [e, HZ.out, HT.out]
          · exact H0.out j (by omega)⟩, HB⟩
        case measure => simp [intOf]; omega
      | true =>
        go_wp2_with fail
        refine HC.out.mono ?_
        rintro e w2 ⟨rfl, rfl⟩
        go_wp2_with fail
        go_ret
        refine ⟨⟨(k : Int), rfl, ?_⟩, HB.out⟩
        have : (zs.any fun t => Lib.hasPrefix s.data.toList t.data.toList) = true := by
          rw [List.any_eq_true]
          refine ⟨zs[k], List.getElem_mem hlt, ?_⟩
          have hz := HZ.out
          unfold rdOf at hz
          rw [List.getD_eq_getElem?_getD] at hz
          simp [hlt] at hz
          rw [hz, HT.out]
        rw [this]
        simp
    · go_wp2_with fail
      go_ret
      refine ⟨⟨(-1 : Int), rfl, ?_⟩, HB.out⟩
      have : (zs.any fun t => Lib.hasPrefix s.data.toList t.data.toList) = false := by
        rw [List.any_eq_false]
        intro z hz
        obtain ⟨i, hi, rfl⟩ := List.getElem_of_mem hz
        have := H0.out i (by omega)
        unfold rdOf at this
        rw [List.getD_eq_getElem?_getD] at this
        simp [hi] at this
        simp [this]
      rw [this]
      decide
theorem two_any (s : ByteArray) (nb : Nat) (A : Option Addr) (c : Nat) (w : World) (hn : w.heap[nb]? = some (.cells #[.string s] 9 (0, 0))) (hr : Kd.C Kd.string w A 3 twos) :
    Calls Tryd.prog 37 #[.slice A (3 : Nat) c, .func (.func 38) #[] #[.pointer (some ⟨nb, 0, none⟩)]] w fun e w' => e = .returned (.bool (isTwo s.data.toList)) ∧ Below w.heap.size w w' := by
  have H := Aside0.mk (index_any s nb A c twos w hn hr (by decide))
  clear hn hr
  go_enter Tryd.func37, Tryd.ntmps37
  go_wp2_with fail
  refine H.out.mono ?_
  rintro e w' ⟨⟨m, rfl, hm⟩, b⟩
  have HM := Aside0.mk hm
  have B := Aside0.mk b
  clear hm b
  go_wp2_with fail
  go_ret
  exact ⟨by unfold isTwo; rw [← HM.out]; rfl, B.out⟩

/-! ### cut -/
/-- The kind and the length of the token at a text's beginning. -/
def cutM : List UInt8 → Int × Nat
  | [] => (0, 0)
  | c :: t => if isLet c then (if isWord ((c :: t).take ((c :: t).takeWhile isInner).length) then 4 else 1, ((c :: t).takeWhile isInner).length)
      else if isDig c then (2, ((c :: t).takeWhile isDig).length)
      else if isTwo (c :: t) then (3, 2)
      else if isSign c then (3, 1) else (0, 0)
theorem lit_twos (w : World) (H : Nat) (hH : w.heap.size = H) : Kd.C Kd.string (w.alloc (.cells #[.string ⟨#[60, 61]⟩, .string ⟨#[61, 61]⟩, .string ⟨#[33, 61]⟩] 9)) (some ⟨H, 0, none⟩) 3 twos := by
  subst hH
  refine Kd.C_of_reads (d := ByteArray.empty) (h1 := fun _ => rfl) ⟨rfl, by omega, fun hn => ⟨_, rfl, fun j hj => ?_⟩⟩
  rw [add_plain, blk_cell (blk_new w _)]
  have : j = 0 ∨ j = 1 ∨ j = 2 := by omega
  rcases this with rfl | rfl | rfl <;> rfl
theorem head_of (s : ByteArray) (h : 0 < s.size) : ∃ t, s.data.toList = s[0] :: t := by
  have : 0 < s.data.toList.length := by rw [size_list]; exact h
  cases hl : s.data.toList with
  | nil => rw [hl] at this; cases this
  | cons c t =>
    refine ⟨t, ?_⟩
    congr 1
    have h2 : s[0] = s.data.toList[0]'this := rfl
    rw [h2]
    simp [hl]
set_option maxHeartbeats 2000000 in
theorem cut_any (s : ByteArray) (w : World) (hm : ML w) (hs : s.size ≤ 1000000) (h0 : 0 < s.size) :
    Calls Tryd.prog 22 #[.string s] w fun e w' => e = .returned (.tuple #[.int .i64 (cutM s.data.toList).1, .int .i64 (cutM s.data.toList).2]) ∧ Below w.heap.size w w' := by
  obtain ⟨t, ht⟩ := head_of s h0
  obtain ⟨l, hl⟩ : ∃ l, s.data.toList = l := ⟨_, rfl⟩
  rw [hl] at ht
  have hb := below_alloc (Below.refl w.heap.size w) (.cells #[.string s] 9)
  have HB := Aside0.mk hb
  have HM := Aside0.mk (hm.next hb)
  clear hb
  have HN := Aside0.mk (blk_new w (.cells #[.string s] 9))
  have HL := Aside0.mk hl
  obtain ⟨c, hc⟩ : ∃ c : UInt8, s[0] = c := ⟨_, rfl⟩
  rw [hc] at ht
  have HT := Aside0.mk ht
  have HCC := Aside0.mk hc
  clear hc hl ht
  have hTW : ∀ p : UInt8 → Bool, (l.takeWhile p).length ≤ s.size := fun p => by
    rw [← size_list, HL.out]; exact (List.takeWhile_prefix p).length_le
  by_cases h1 : isLet c = true
  · have HE : Aside0 (cutM l = (if isWord (l.take (l.takeWhile isInner).length) then 4 else 1, (l.takeWhile isInner).length)) := ⟨by rw [HT.out]; simp only [cutM]; rw [if_pos h1]⟩
    have H1 := Aside0.mk h1
    have hn := hTW isInner
    obtain ⟨n, hn'⟩ : ∃ n, (l.takeWhile isInner).length = n := ⟨_, rfl⟩
    have HNN := Aside0.mk hn'
    rw [hn'] at hn HE
    clear hn' hTW h1
    go_enter Tryd.func22, Tryd.ntmps22
    go_wp2_with fail
    refine (byteIn_any _ _ _).mono ?_
    rintro e w1 ⟨m, rfl, hm1, rfl⟩
    have hm0 : 0 ≤ m := by
      rw [HCC.out] at hm1
      exact of_decide_eq_true (hm1.trans ((letters_is c).trans H1.out))
    clear hm1
    go_wp2_with fail
    refine (front_any s _ isInner _ hs (by decide +kernel) (by decide) inners_is).mono ?_
    rintro e w2 ⟨rfl, b2⟩
    rw [HL.out, HNN.out]
    have c2 : w2.cell? ⟨w.heap.size, 0, none⟩ = some (.string s) := blk_cell (blk_below HN.out b2) 0
    have B2 := Aside0.mk (below_then HB.out HB.out.size b2)
    have HM2 := Aside0.mk (HM.out.next b2)
    clear b2
    have hx : (s.extract 0 n).data.toList = l.take n := by rw [Lib.extract_data, HL.out]; simp
    have hxs : (s.extract 0 n).size ≤ 1000000 := by rw [← size_list, hx, List.length_take]; rw [← HNN.out]; have := (List.takeWhile_prefix (l := l) isInner).length_le; have := HL.out; have h3 := size_list s; rw [this] at h3; omega
    have HX := Aside0.mk hx
    have HXS := Aside0.mk hxs
    clear hx hxs
    obtain ⟨b, hb⟩ : ∃ b, isWord (l.take n) = b := ⟨_, rfl⟩
    rw [hb] at HE
    have HBW := Aside0.mk hb
    clear hb
    cases b with
    | true =>
      go_wp2_with fail
      refine (word_any (s.extract 0 n) _ HM2.out HXS.out).mono ?_
      rintro e w3 ⟨rfl, b3⟩
      rw [HX.out, HBW.out]
      have B3 := Aside0.mk (below_then B2.out B2.out.size b3)
      clear b3
      go_wp2_with fail
      go_ret2
      refine ⟨?_, B3.out⟩
      rw [HL.out, HE.out]; rfl
    | false =>
      go_wp2_with fail
      refine (word_any (s.extract 0 n) _ HM2.out HXS.out).mono ?_
      rintro e w3 ⟨rfl, b3⟩
      rw [HX.out, HBW.out]
      have B3 := Aside0.mk (below_then B2.out B2.out.size b3)
      clear b3
      go_wp2_with fail
      go_ret2
      refine ⟨?_, B3.out⟩
      rw [HL.out, HE.out]; rfl
  · obtain h1 : isLet c = false := by simpa using h1
    have H1 := Aside0.mk h1
    by_cases h2 : isDig c = true
    · have HE : Aside0 (cutM l = (2, (l.takeWhile isDig).length)) := ⟨by rw [HT.out]; simp only [cutM]; rw [h1, h2]; rfl⟩
      have H2 := Aside0.mk h2
      have hn := hTW isDig
      obtain ⟨n, hn'⟩ : ∃ n, (l.takeWhile isDig).length = n := ⟨_, rfl⟩
      have HNN := Aside0.mk hn'
      rw [hn'] at hn HE
      clear hn' hTW h1 h2
      go_enter Tryd.func22, Tryd.ntmps22
      go_wp2_with fail
      refine (byteIn_any _ _ _).mono ?_
      rintro e w1 ⟨m, rfl, hm1, rfl⟩
      have hm0 : ¬ 0 ≤ m := by
        rw [HCC.out] at hm1
        exact of_decide_eq_false (hm1.trans ((letters_is c).trans H1.out))
      clear hm1
      go_wp2_with fail
      refine (byteIn_any _ _ _).mono ?_
      rintro e w1 ⟨m2, rfl, hm1, rfl⟩
      have hm2 : 0 ≤ m2 := by
        rw [HCC.out] at hm1
        exact of_decide_eq_true (hm1.trans ((figures_is c).trans H2.out))
      clear hm1
      go_wp2_with fail
      refine (front_any s _ isDig _ hs (by decide +kernel) (by decide) figures_is).mono ?_
      rintro e w2 ⟨rfl, b2⟩
      rw [HL.out, HNN.out]
      have B2 := Aside0.mk (below_then HB.out HB.out.size b2)
      clear b2
      go_wp2_with fail
      go_ret2
      refine ⟨?_, B2.out⟩
      rw [HL.out, HE.out]; rfl
    · obtain h2 : isDig c = false := by simpa using h2
      have H2 := Aside0.mk h2
      obtain ⟨b, hb⟩ : ∃ b, isTwo l = b := ⟨_, rfl⟩
      have HBW := Aside0.mk hb
      have HE : Aside0 (cutM l = if b then (3, 2) else if isSign c then (3, 1) else (0, 0)) := ⟨by rw [← HBW.out, HT.out]; simp only [cutM]; rw [h1, h2]; rfl⟩
      clear hTW hb h1 h2
      cases b with
      | true =>
        go_enter Tryd.func22, Tryd.ntmps22
        go_wp2_with fail
        refine (byteIn_any _ _ _).mono ?_
        rintro e w1 ⟨m, rfl, hm1, rfl⟩
        have hm0 : ¬ 0 ≤ m := by
          rw [HCC.out] at hm1
          exact of_decide_eq_false (hm1.trans ((letters_is c).trans H1.out))
        clear hm1
        go_wp2_with fail
        refine (byteIn_any _ _ _).mono ?_
        rintro e w1 ⟨m2, rfl, hm1, rfl⟩
        have hm2 : ¬ 0 ≤ m2 := by
          rw [HCC.out] at hm1
          exact of_decide_eq_false (hm1.trans ((figures_is c).trans H2.out))
        clear hm1
        go_wp2_with fail
        have HN3 := Aside0.mk (blk_below HN.out (below_alloc (Below.refl _ _) (.cells #[.string ⟨#[60, 61]⟩, .string ⟨#[61, 61]⟩, .string ⟨#[33, 61]⟩] 9)))
        have B3 := Aside0.mk (below_alloc' HB.out (Nat.le_refl _) (.cells #[.string ⟨#[60, 61]⟩, .string ⟨#[61, 61]⟩, .string ⟨#[33, 61]⟩] 9))
        refine (two_any s w.heap.size _ _ _ HN3.out (lit_twos _ _ (by simp))).mono ?_
        rintro e w2 ⟨rfl, b2⟩
        rw [HL.out, HBW.out]
        have B2 := Aside0.mk (below_then B3.out B3.out.size b2)
        clear b2
        go_wp2_with fail
        go_ret2
        refine ⟨?_, B2.out⟩
        rw [HL.out, HE.out]; rfl
      | false =>
        obtain ⟨d, hd⟩ : ∃ d, isSign c = d := ⟨_, rfl⟩
        rw [hd] at HE
        have HD := Aside0.mk hd
        clear hd
        go_enter Tryd.func22, Tryd.ntmps22
        go_wp2_with fail
        refine (byteIn_any _ _ _).mono ?_
        rintro e w1 ⟨m, rfl, hm1, rfl⟩
        have hm0 : ¬ 0 ≤ m := by
          rw [HCC.out] at hm1
          exact of_decide_eq_false (hm1.trans ((letters_is c).trans H1.out))
        clear hm1
        go_wp2_with fail
        refine (byteIn_any _ _ _).mono ?_
        rintro e w1 ⟨m2, rfl, hm1, rfl⟩
        have hm2 : ¬ 0 ≤ m2 := by
          rw [HCC.out] at hm1
          exact of_decide_eq_false (hm1.trans ((figures_is c).trans H2.out))
        clear hm1
        go_wp2_with fail
        have HN3 := Aside0.mk (blk_below HN.out (below_alloc (Below.refl _ _) (.cells #[.string ⟨#[60, 61]⟩, .string ⟨#[61, 61]⟩, .string ⟨#[33, 61]⟩] 9)))
        have B3 := Aside0.mk (below_alloc' HB.out (Nat.le_refl _) (.cells #[.string ⟨#[60, 61]⟩, .string ⟨#[61, 61]⟩, .string ⟨#[33, 61]⟩] 9))
        refine (two_any s w.heap.size _ _ _ HN3.out (lit_twos _ _ (by simp))).mono ?_
        rintro e w2 ⟨rfl, b2⟩
        rw [HL.out, HBW.out]
        have B2 := Aside0.mk (below_then B3.out B3.out.size b2)
        have c2 : w2.cell? ⟨w.heap.size, 0, none⟩ = some (.string s) := blk_cell (blk_below HN3.out b2) 0
        clear b2
        go_wp2_with fail
        refine (byteIn_any _ _ _).mono ?_
        rintro e w1 ⟨m3, rfl, hm1, rfl⟩
        have hm3 : decide (0 ≤ m3) = d := by
          rw [HCC.out] at hm1
          exact hm1.trans HD.out
        clear hm1
        cases d with
        | true =>
          have hm4 : 0 ≤ m3 := of_decide_eq_true hm3
          clear hm3
          go_wp2_with fail
          go_ret2
          refine ⟨?_, B2.out⟩
          rw [HL.out, HE.out]; rfl
        | false =>
          have hm4 : ¬ 0 ≤ m3 := of_decide_eq_false hm3
          clear hm3
          go_wp2_with fail
          go_ret2
          refine ⟨?_, B2.out⟩
          rw [HL.out, HE.out]; rfl
end Go.Proofs.YthkndoglmajehaaDoor.Lex
