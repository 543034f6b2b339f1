import Derived.Test.YthkndoglmajehaaDoorK
namespace Go.Proofs.YthkndoglmajehaaDoor.Lex
open Go.RowKit Go.Proofs.YthkndoglmajehaaDoorW.PrintWords Go.Proofs.YthkndoglmajehaaDoorW.PrintLast Go.Proofs.YthkndoglmajehaaDoorW.PrintMore Go.Proofs.YthkndoglmajehaaDoor.PLexTokens
set_option linter.unusedVariables false
set_option linter.unusedSimpArgs false

theorem ml_of {w : World} (h : ∃ m, w.cell? ⟨0, 0, none⟩ = some (.int .i64 m)) : ML w := by
  refine ⟨h, ?_⟩
  obtain ⟨m, hm⟩ := h
  by_cases h0 : 0 < w.heap.size
  · exact h0
  · have hz : w.heap[0]? = none := Array.getElem?_eq_none (by omega)
    simp [World.cell?, hz] at hm
theorem name_cons (c : UInt8) (t : List UInt8) : nameB (c :: t) = (decide ((c :: t).length ≤ 16) && (isLet c && ((c :: t).all isInner && !isWord (c :: t)))) := by
  unfold nameB spelledB
  dsimp only
  cases h : isLet c with
  | false => simp
  | true =>
    have : isInner c = true := let_inner c h
    rw [List.all_cons, this]
    simp
set_option maxHeartbeats 8000000 in
set_option maxRecDepth 100000 in
theorem name_any (s : ByteArray) (w : World) (hm : ML w) (hs : s.size ≤ 1000000) :
    Calls Tryd.prog 9 #[.string s] w fun e w' => e = .returned (.bool (nameB s.data.toList)) ∧ Below w.heap.size w w' := by
  have hsl := size_list s
  have HM := Aside0.mk hm
  clear hm
  by_cases h0 : 0 < s.size
  · obtain ⟨t, ht⟩ := head_of s h0
    have hne : ¬ s.toList = [] := by rw [Lib.toList_data, ht]; simp
    have hem : s.toList.isEmpty = false := by rw [Lib.toList_data, ht]; rfl
    have hem2 : (!s.toList.isEmpty) = true := by rw [hem]; rfl
    obtain ⟨c, hc⟩ : ∃ c : UInt8, s[0] = c := ⟨_, rfl⟩
    rw [hc] at ht
    have hn := name_cons c t
    rw [← ht, hsl] at hn
    obtain ⟨l, hl⟩ : ∃ l, s.data.toList = l := ⟨_, rfl⟩
    rw [hl] at hn ht ⊢
    have HL := Aside0.mk hl
    have HC := Aside0.mk hc
    clear hl hsl ht hc
    by_cases h16 : s.size ≤ 16
    · rw [decide_eq_true h16, Bool.true_and] at hn
      by_cases h1 : isLet c = true
      · rw [h1, Bool.true_and] at hn
        have H1 := Aside0.mk h1
        have HT := Aside0.mk (trim_any s ⟨#[97, 98, 99, 100, 101, 102, 103, 104, 105, 106, 107, 108, 109, 110, 111, 112, 113, 114, 115, 116, 117, 118, 119, 120, 121, 122, 48, 49, 50, 51, 52, 53, 54, 55, 56, 57, 95]⟩ w (by omega) (by decide +kernel) (by decide))
        change Aside0 (Calls Tryd.prog 18 _ w fun e w' => e = .returned (.string (str (Lib.trimS s.data.toList inners))) ∧ Below w.heap.size w w') at HT
        rw [HL.out] at HT
        obtain ⟨y, hy⟩ : ∃ y, Lib.trimS l inners = y := ⟨_, rfl⟩
        have hyn := trim_nil l inners isInner inners_is
        rw [hy] at hyn HT
        obtain ⟨z, hz⟩ : ∃ z, str y = z := ⟨_, rfl⟩
        have hzd : z.toList = y := by rw [← hz, Lib.toList_data, data_str]
        rw [hz] at HT
        clear hz hy h1
        by_cases h2 : l.all isInner = true
        · rw [h2, Bool.true_and] at hn
          have hy0 := hyn.2 h2
          rw [hy0] at hzd
          have hz2 : z.toList.isEmpty = true := by rw [hzd]; rfl
          obtain ⟨b, hb⟩ : ∃ b, isWord l = b := ⟨_, rfl⟩
          rw [hb] at hn
          have HN := Aside0.mk hn
          have HB := Aside0.mk hb
          clear hn hb hyn h2 hy0 hne
          go_enter Tryd.func9, Tryd.ntmps9
          go_wp2_with fail
          refine (byteIn_any _ _ _).mono ?_
          rintro e w1 ⟨m, rfl, hm1, rfl⟩
          have hm0 : 0 ≤ m := by
            rw [HC.out] at hm1
            exact of_decide_eq_true (hm1.trans ((letters_is c).trans H1.out))
          clear hm1
          go_wp2_with fail
          refine HT.out.mono ?_
          rintro e w1 ⟨rfl, b1⟩
          have B1 := Aside0.mk b1
          have HM1 := Aside0.mk (HM.out.next b1)
          clear b1
          go_wp2_with fail
          refine (word_any s _ HM1.out hs).mono ?_
          rintro e w2 ⟨rfl, b2⟩
          rw [HL.out, HB.out]
          have B2 := Aside0.mk (below_then B1.out B1.out.size b2)
          clear b2
          go_wp2_with fail
          go_ret
          exact ⟨by rw [HN.out]; cases b <;> rfl, B2.out⟩
        · obtain h2 : l.all isInner = false := by simpa using h2
          rw [h2, Bool.false_and] at hn
          have hy0 : y ≠ [] := fun e => by rw [hyn.1 e] at h2; cases h2
          have hz1 : ¬ z.toList = [] := by rw [hzd]; exact hy0
          have hz2 : z.toList.isEmpty = false := by rw [hzd]; cases y with
            | nil => exact absurd rfl hy0
            | cons _ _ => rfl
          have HN := Aside0.mk hn
          clear hn hyn h2 hy0 hne hzd
          go_enter Tryd.func9, Tryd.ntmps9
          go_wp2_with fail
          refine (byteIn_any _ _ _).mono ?_
          rintro e w1 ⟨m, rfl, hm1, rfl⟩
          have hm0 : 0 ≤ m := by
            rw [HC.out] at hm1
            exact of_decide_eq_true (hm1.trans ((letters_is c).trans H1.out))
          clear hm1
          go_wp2_with fail
          refine HT.out.mono ?_
          rintro e w1 ⟨rfl, b1⟩
          have B1 := Aside0.mk b1
          clear b1
          go_wp2_with fail
          go_ret
          exact ⟨by rw [HN.out]; rfl, B1.out⟩
      · obtain h1 : isLet c = false := by simpa using h1
        rw [h1, Bool.false_and] at hn
        have H1 := Aside0.mk h1
        have HN := Aside0.mk hn
        clear hn h1 hne
        go_enter Tryd.func9, Tryd.ntmps9
        go_wp2_with fail
        refine (byteIn_any _ _ _).mono ?_
        rintro e w1 ⟨m, rfl, hm1, rfl⟩
        have hm0 : ¬ 0 ≤ m := by
          rw [HC.out] at hm1
          exact of_decide_eq_false (hm1.trans ((letters_is c).trans H1.out))
        clear hm1
        go_wp2_with fail
        go_ret
        exact ⟨by rw [HN.out]; rfl, Below.refl _ _⟩
    · rw [decide_eq_false h16, Bool.false_and] at hn
      have HN := Aside0.mk hn
      clear hn hne
      go_enter Tryd.func9, Tryd.ntmps9
      go_wp2_with fail
      go_ret
      exact ⟨by rw [HN.out]; rfl, Below.refl _ _⟩
  · have hl : s.data.toList = [] := List.length_eq_zero_iff.1 (by rw [hsl]; omega)
    have hne : s.toList = [] := by rw [Lib.toList_data, hl]
    have hem : s.toList.isEmpty = true := by rw [hne]; rfl
    have HN : Aside0 (nameB s.data.toList = false) := ⟨by rw [hl]; rfl⟩
    clear hl hne hsl
    go_enter Tryd.func9, Tryd.ntmps9
    go_wp2_with fail
    go_ret
    exact ⟨by rw [HN.out]; rfl, Below.refl _ _⟩
/-- The law LexNames' walk. -/
theorem lexNames_walk (s : ByteArray) (w : World) (hm : ML w) (hs : s.size ≤ 140737488351232) :
    Calls Tryd.prog 3 #[.string s] w fun e w' => e = .returned (.bool true) ∧ Below w.heap.size w w' := by
  have N1 : Aside0 (nameB (⟨#[97]⟩ : ByteArray).data.toList = true) := ⟨by decide +kernel⟩
  have N2 : Aside0 (isWord (⟨#[105, 102]⟩ : ByteArray).data.toList = true) := ⟨by decide +kernel⟩
  have N3 : Aside0 (nameB (⟨#[105, 102]⟩ : ByteArray).data.toList = false) := ⟨by decide +kernel⟩
  have HM := Aside0.mk hm
  clear hm
  by_cases hbig : 5000 < s.size
  all_goals
    go_enter Tryd.func3, Tryd.ntmps3
    go_wp2_with fail
    refine (name_any _ _ HM.out (by decide)).mono ?_
    rintro e w1 ⟨rfl, b1⟩
    rw [N1.out]
    have B1 := Aside0.mk b1
    have HM1 := Aside0.mk (HM.out.next b1)
    clear b1
    go_wp2_with fail
    refine (word_any _ _ HM1.out (by decide)).mono ?_
    rintro e w2 ⟨rfl, b2⟩
    rw [N2.out]
    have B2 := Aside0.mk (below_then B1.out B1.out.size b2)
    have HM2 := Aside0.mk (HM1.out.next b2)
    clear b2
    go_wp2_with fail
    refine (name_any _ _ HM2.out (by decide)).mono ?_
    rintro e w3 ⟨rfl, b3⟩
    rw [N3.out]
    have B3 := Aside0.mk (below_then B2.out B2.out.size b3)
    have HM3 := Aside0.mk (HM2.out.next b3)
    clear b3 B1 B2 HM1 HM2
    go_wp2_with fail
  · go_ret
    exact ⟨rfl, B3.out⟩
  · have hs1 : s.size ≤ 1000000 := by omega
    obtain ⟨b, hb⟩ : ∃ b, isWord s.data.toList = b := ⟨_, rfl⟩
    obtain ⟨n, hn⟩ : ∃ n, nameB s.data.toList = n := ⟨_, rfl⟩
    have hbn : b = true → n = false := by
      intro h
      rw [← hn]
      unfold nameB
      rw [hb, h]
      simp
    have HB := Aside0.mk hb
    have HN := Aside0.mk hn
    clear hb hn
    refine (word_any s _ HM3.out hs1).mono ?_
    rintro e w4 ⟨rfl, b4⟩
    rw [HB.out]
    have B4 := Aside0.mk (below_then B3.out B3.out.size b4)
    have HM4 := Aside0.mk (HM3.out.next b4)
    clear b4 B3 HM3
    go_wp2_with fail
    refine (refWord_any s _).mono ?_
    rintro e w5 ⟨rfl, b5⟩
    rw [HB.out]
    have B5 := Aside0.mk (below_then B4.out B4.out.size b5)
    have HM5 := Aside0.mk (HM4.out.next b5)
    clear b5 B4 HM4
    go_wp2_with fail
    refine (name_any s _ HM5.out hs1).mono ?_
    rintro e w6 ⟨rfl, b6⟩
    rw [HN.out]
    have B6 := Aside0.mk (below_then B5.out B5.out.size b6)
    have HM6 := Aside0.mk (HM5.out.next b6)
    clear b6 B5 HM5
    go_wp2_with fail
    refine (refName_any s _ hs1).mono ?_
    rintro e w7 ⟨rfl, b7⟩
    rw [HN.out]
    have B7 := Aside0.mk (below_then B6.out B6.out.size b7)
    have HM7 := Aside0.mk (HM6.out.next b7)
    clear b7 B6 HM6
    go_wp2_with fail
    refine (word_any s _ HM7.out hs1).mono ?_
    rintro e w8 ⟨rfl, b8⟩
    rw [HB.out]
    have B8 := Aside0.mk (below_then B7.out B7.out.size b8)
    have HM8 := Aside0.mk (HM7.out.next b8)
    clear b8 B7 HM7
    cases b with
    | false =>
      clear hbn
      go_wp2_with fail
      go_ret
      exact ⟨rfl, B8.out⟩
    | true =>
      obtain rfl := hbn rfl
      clear hbn
      go_wp2_with fail
      refine (name_any s _ HM8.out hs1).mono ?_
      rintro e w9 ⟨rfl, b9⟩
      rw [HN.out]
      have B9 := Aside0.mk (below_then B8.out B8.out.size b9)
      clear b9 B8 HM8
      go_wp2_with fail
      go_ret
      exact ⟨rfl, B9.out⟩
end Go.Proofs.YthkndoglmajehaaDoor.Lex
