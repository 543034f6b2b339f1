import Derived.Test.YthkndoglmajehaaDoorE
namespace Go.Proofs.YthkndoglmajehaaDoor.Lex
open Go.RowKit Go.Proofs.YthkndoglmajehaaDoorW.PrintWords Go.Proofs.YthkndoglmajehaaDoorW.PrintLast Go.Proofs.YthkndoglmajehaaDoorW.PrintMore Go.Proofs.YthkndoglmajehaaDoor.PLexTokens
set_option linter.unusedVariables false
set_option linter.unusedSimpArgs false

theorem info31 : (Tryd.prog.info? 31).map (fun i => (i.zero, i.size, i.bytes)) = some (some (.agg #[.int .i64 0, .string ⟨#[]⟩, .int .i64 0]), 3, 32) := by kernel_rfl
theorem frontE (s : ByteArray) (k : Nat) (hk : k ≤ s.size) : (s.extract k s.size).data.toList = s.data.toList.drop k := Lib.extract_to_end s k
theorem sizeE (s : ByteArray) (k : Nat) (hk : k ≤ s.size) : (s.extract k s.size).size = s.size - k := by rw [← size_list, frontE s k hk, List.length_drop, size_list]
theorem drop_tw (p : UInt8 → Bool) (l : List UInt8) : l.drop (l.takeWhile p).length = l.dropWhile p := by
  induction l with
  | nil => rfl
  | cons c l ih =>
    by_cases h : p c = true
    · rw [List.takeWhile_cons_of_pos h, List.dropWhile_cons_of_pos h, List.length_cons, List.drop_succ_cons, ih]
    · rw [List.takeWhile_cons_of_neg h, List.dropWhile_cons_of_neg h]; rfl
set_option maxHeartbeats 8000000 in
set_option maxRecDepth 100000 in
theorem tokens_any (s : ByteArray) (w : World) (hm : ML w) (hs : s.size ≤ 1000000) :
    Calls Tryd.prog 14 #[.string s] w fun e w' => (∃ v, e = .returned (.tuple #[v, .int .i64 (toks s.data.toList).2.1, .int .i64 (toks s.data.toList).2.2]) ∧ k31.R 31 w' w.heap.size (fun _ => True) v (toks s.data.toList).1) ∧ Below w.heap.size w w' := by
  have hsl := size_list s
  by_cases hbig : 16384 < s.size
  · have E : Aside0 (toks s.data.toList = ([], 0, 12)) := ⟨by unfold toks; rw [if_pos (by omega)]⟩
    clear hsl
    go_enter Tryd.func14, Tryd.ntmps14
    go_wp2
    go_ret3
    refine ⟨⟨.slice none 0 0, ?_, ?_⟩, Below.refl _ _⟩
    · rw [E.out]; rfl
    · rw [E.out]; exact Kd.R_nil _ _ _ _ _
  · obtain ⟨l, hl⟩ : ∃ l, s.data.toList = l := ⟨_, rfl⟩
    rw [hl] at hsl
    have E : Aside0 (toks s.data.toList = (run l 0 0).out) := ⟨by rw [hl]; unfold toks; rw [if_neg (by omega)]⟩
    have HL := Aside0.mk hl
    have HSL := Aside0.mk hsl
    have HM := Aside0.mk hm
    clear hl hsl hm
    go_enter Tryd.func14, Tryd.ntmps14
    go_wp2
    go_loopw [5, 6] (fun v i wr => ∃ (k : Nat) (ts : List S31), i = .int .i64 k ∧ k ≤ s.size ∧ ts.length ≤ k ∧ Aside0 (run l 0 0 = R.pre ts (run (l.drop k) k ts.length)) ∧ Aside0 (k31.R 31 wr w.heap.size (fun _ => True) v ts) ∧ Aside0 (Below w.heap.size w wr)) (fun _ i _ => s.size + 1 - (intOf i).toNat)
    case atStart => exact ⟨0, [], rfl, Nat.zero_le _, Nat.le_refl _, ⟨rfl⟩, ⟨Kd.R_nil _ _ _ _ _⟩, ⟨Below.refl _ _⟩⟩
    case round =>
      obtain ⟨k, ts, rfl, hk, hts, HR, HV, HB⟩ := hrel
      obtain ⟨wi, rfl⟩ : ∃ wi : World, wi = wr := ⟨_, rfl⟩
      obtain ⟨A, cc, hv, hlc, _⟩ := Kd.R_reads HV.out
      subst hv
      have hse := sizeE s k hk
      have hfr := frontE s k hk
      obtain ⟨u, hu⟩ : ∃ u, s.extract k s.size = u := ⟨_, rfl⟩
      rw [hu] at hse hfr
      rw [HL.out] at hfr
      have HU := Aside0.mk hu
      have HF := Aside0.mk hfr
      have hus : u.size ≤ 1000000 := by omega
      clear hu hfr
      obtain ⟨n, hn⟩ : ∃ n, ((l.drop k).takeWhile isSp).length = n := ⟨_, rfl⟩
      have hn2 : k + n ≤ s.size := by
        have h1 := (List.takeWhile_prefix (l := l.drop k) isSp).length_le
        rw [hn, List.length_drop, HSL.out] at h1
        omega
      have HN := Aside0.mk hn
      have HR2 : Aside0 (run l 0 0 = R.pre ts (run (l.drop (k + n)) (k + n) ts.length)) := ⟨by rw [HR.out, run_spaces, hn, List.drop_drop]⟩
      have HUS := Aside0.mk hus
      clear hn hse hus HR
      go_wp2_with fail
      rw [HU.out]
      refine (front_any u _ isSp _ HUS.out (by decide +kernel) (by decide) spaces_is).mono ?_
      rintro e w2 ⟨rfl, b2⟩
      rw [HF.out, HN.out]
      have B2 := Aside0.mk (below_then HB.out HB.out.size b2)
      have V2 := Aside0.mk (Kd.R_below HV.out b2)
      clear b2 HB HV
      by_cases hend : k + n = s.size
      · have hd : (((k : Int) + (n : Int)) == (s.size : Int)) = true := beq_iff_eq.2 (by omega)
        have HE : Aside0 (toks s.data.toList = (ts, 0, 0)) := ⟨by
          rw [E.out, HR2.out, List.drop_eq_nil_of_le (by rw [HSL.out]; omega), run_nil, pre_ok, List.append_nil]; rfl⟩
        clear hend HR2
        go_wp2_with fail
        go_ret3
        refine ⟨⟨.slice A ts.length cc, ?_, ?_⟩, B2.out⟩
        · rw [HE.out]; rfl
        · rw [HE.out]; exact V2.out
      · have hd : (((k : Int) + (n : Int)) == (s.size : Int)) = false := beq_eq_false_iff_ne.2 (by omega)
        have hlt : k + n < s.size := by omega
        clear hend
        obtain ⟨q, hq⟩ : ∃ q, k + n = q := ⟨_, rfl⟩
        have hq2 : (k : Int) + (n : Int) = (q : Int) := by omega
        rw [hq] at HR2 hlt
        have hse := sizeE s q (by omega)
        have hfr := frontE s q (by omega)
        obtain ⟨u2, hu⟩ : ∃ u, s.extract q s.size = u := ⟨_, rfl⟩
        rw [hu] at hse hfr
        rw [HL.out] at hfr
        have HU2 := Aside0.mk hu
        have HF2 := Aside0.mk hfr
        have HS2 : Aside0 (u2.size ≤ 1000000 ∧ 0 < u2.size) := ⟨by omega, by omega⟩
        clear hu hfr hse
        obtain ⟨kd, hkd⟩ : ∃ kd, (cutM (l.drop q)).1 = kd := ⟨_, rfl⟩
        obtain ⟨m, hmm⟩ : ∃ m, (cutM (l.drop q)).2 = m := ⟨_, rfl⟩
        have hne : l.drop q ≠ [] := by
          intro h
          have := congrArg List.length h
          rw [List.length_drop, HSL.out] at this
          simp at this
          omega
        obtain ⟨c, t, hct⟩ := List.exists_cons_of_ne_nil hne
        have hcl := cut_len c t
        rw [← hct, hkd, hmm] at hcl
        have hlen : t.length + 1 + q = s.size := by
          have := congrArg List.length hct
          rw [List.length_drop, HSL.out, List.length_cons] at this
          omega
        have hnsp : isSp c = false := by
          have h1 := HN.out
          have h2 : (l.drop k).dropWhile isSp = c :: t := by
            rw [← hct, ← hq, ← List.drop_drop, ← h1]
            exact (drop_tw isSp _).symm
          have h3 := List.head_dropWhile_not (p := isSp) (l := l.drop k) (by rw [h2]; simp)
          simpa [h2] using h3
        have HCT := Aside0.mk hct
        have HK := Aside0.mk hkd
        have HMM := Aside0.mk hmm
        have HCL := Aside0.mk hcl
        have HNS := Aside0.mk hnsp
        have HM2 := Aside0.mk (HM.out.below B2.out HM.out.pos B2.out.size)
        have hmq : q + m ≤ s.size := by omega
        clear hne hcl hnsp hct hkd hmm hlen
        go_wp2_with fail
        rw [HU2.out]
        refine (cut_any u2 _ HM2.out HS2.out.1 HS2.out.2).mono ?_
        rintro e w3 ⟨rfl, b3⟩
        rw [HF2.out, HK.out, HMM.out]
        have B3 := Aside0.mk (below_then B2.out B2.out.size b3)
        have V3 := Aside0.mk (Kd.R_below V2.out b3)
        clear b3 B2 V2
        go_wp2_with fail
        have hx : (s.extract q (q + m)).data.toList = (l.drop q).take m := by
          rw [Lib.extract_data, HL.out]; congr 1; omega
        obtain ⟨x, hxx⟩ : ∃ x, s.extract q (q + m) = x := ⟨_, rfl⟩
        rw [hxx] at hx
        have hxs : x.size ≤ 1000000 := by rw [← size_list, hx, List.length_take, List.length_drop, HSL.out]; omega
        have HX := Aside0.mk hx
        have HXX := Aside0.mk hxx
        have HXS := Aside0.mk hxs
        have hst : x = str ((l.drop q).take m) := by rw [← hx, str_data]
        have HST := Aside0.mk hst
        rw [hxx]
        clear hx hxx hxs hst
        have hz3 := B3.out.size
        have B4 := Aside0.mk (below_alloc' B3.out (Nat.le_refl _) (.cells #[.int .i64 kd, .string x, .int .i64 q] 31))
        have V4 := Aside0.mk (Kd.R_alloc V3.out (.cells #[.int .i64 kd, .string x, .int .i64 q] 31))
        have N4 := Aside0.mk (blk_new w3 (.cells #[.int .i64 kd, .string x, .int .i64 q] 31))
        clear B3 V3
        refine (wrong_any kd HCL.out.2.2 x q ts.length _ HXS.out (by omega)).mono ?_
        rintro e w5 ⟨rfl, b5⟩
        rw [HX.out]
        obtain ⟨er, her⟩ : ∃ er, wrongM kd ((l.drop q).take m) ts.length = er := ⟨_, rfl⟩
        have HER := Aside0.mk her
        have HER2 : Aside0 (errAt (c :: t) ts.length = er) := ⟨by unfold errAt; rw [← HCT.out, HK.out, HMM.out, her]⟩
        rw [her]
        have B5 := Aside0.mk (below_then B4.out B4.out.size b5)
        have V5 := Aside0.mk (Kd.R_below V4.out b5)
        have N5 := Aside0.mk (blk_below N4.out b5)
        clear b5 B4 V4 her
        by_cases h0 : er = 0
        · have HRN : Aside0 (run l 0 0 = R.pre (ts ++ [⟨kd, x, q⟩]) (run (l.drop (q + m)) (q + m) (ts ++ [(⟨kd, x, q⟩ : S31)]).length)) := ⟨by
            rw [HR2.out, HCT.out, run_tok c t q ts.length HNS.out (by rw [HER2.out, h0]), pre_snoc, ← HCT.out, HMM.out, List.drop_drop, List.length_append]
            congr 3
            unfold tokAt
            rw [HK.out, HMM.out, HST.out]⟩
          have hz5 := B5.out.size
          have c0 : w5.cell? ⟨w3.heap.size, 0, none⟩ = some (.int .i64 kd) := blk_cell N5.out 0
          have c1 : w5.cell? ⟨w3.heap.size, 1, none⟩ = some (.string x) := blk_cell N5.out 1
          have c2 : w5.cell? ⟨w3.heap.size, 2, none⟩ = some (.int .i64 q) := blk_cell N5.out 2
          have hm1 : 1 ≤ m := HCL.out.2.1 (by rw [← HK.out, HCT.out]; exact err_kind (by rw [HER2.out, h0]))
          subst h0
          clear HR2
          go_wp2_with (at_builtin; go_loud (refine Kd.R_append k31 w.heap.size rfl (.tmp 49) (.tmp 51) 24 31 _ 32 rfl Tryd.underlying24 info31 rfl (by decide) (by decide) (.slice A ts.length cc) ts ⟨kd, x, q⟩ [.int .i64 kd, .string x, .int .i64 q] (fun _ => True) (fun _ => False) rfl rfl (k31_mkM _ _ _ ⟨kd, x, q⟩) (fun _ h => h.elim) (fun _ _ => trivial) V5.out B5.out hz5 (by omega) ?_; intro v1 w1 hv1 hb1 hg1 hat1))
          have V6 := Aside0.mk hv1
          have B6 := Aside0.mk hb1
          clear hv1 hb1 hg1 hat1
          go_wp2
          go_roundw
          case rel => exact ⟨q + m, ts ++ [⟨kd, x, q⟩], by go_num, hmq, by simp; omega, HRN, V6, B6⟩
          case measure => simp [intOf]; omega
        · have hb : (er != 0) = true := bne_iff_ne.2 h0
          have HE : Aside0 (toks s.data.toList = ([], (q : Int), er)) := ⟨by
            rw [E.out, HR2.out, HCT.out, run_bad c t q ts.length HNS.out (by rw [HER2.out]; exact h0), pre_bad, HER2.out]; rfl⟩
          clear h0 HR2
          go_wp2_with fail
          go_ret3
          refine ⟨⟨.slice none 0 0, ?_, ?_⟩, B5.out⟩
          · rw [HE.out]; rfl
          · rw [HE.out]; exact Kd.R_nil _ _ _ _ _
end Go.Proofs.YthkndoglmajehaaDoor.Lex
