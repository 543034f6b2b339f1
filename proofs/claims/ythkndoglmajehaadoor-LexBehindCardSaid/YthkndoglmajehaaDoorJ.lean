import Derived.Test.YthkndoglmajehaaDoorI
namespace Go.Proofs.YthkndoglmajehaaDoor.Lex
open Go.RowKit Go.Proofs.YthkndoglmajehaaDoorW.PrintWords Go.Proofs.YthkndoglmajehaaDoorW.PrintLast Go.Proofs.YthkndoglmajehaaDoorW.PrintMore Go.Proofs.YthkndoglmajehaaDoor.PLexTokens
set_option linter.unusedVariables false
set_option linter.unusedSimpArgs false

theorem cut_sign (c : UInt8) (t : List UInt8) (h1 : isLet c = false) (h2 : isDig c = false) : cutM (c :: t) = (if isTwo (c :: t) then (3, 2) else if isSign c then (3, 1) else (0, 0)) := by
  simp only [cutM]
  rw [h1, h2]
  rfl
theorem sign_kind (c : UInt8) (t : List UInt8) (h1 : isLet c = false) (h2 : isDig c = false) : signN (c :: t) = (cutM (c :: t)).2 ∧ (cutM (c :: t)).1 = if (cutM (c :: t)).2 = 0 then 0 else 3 := by
  rw [cut_sign c t h1 h2]
  unfold signN
  dsimp only
  obtain ⟨a, ha⟩ : ∃ a, isTwo (c :: t) = a := ⟨_, rfl⟩
  obtain ⟨b, hb⟩ : ∃ b, isSign c = b := ⟨_, rfl⟩
  rw [ha, hb]
  cases a <;> cases b <;> simp
/-- The relation of the reference's loop. -/
def RTok (l : List UInt8) (B : Nat) (w wr : World) (v : Value) (k : Nat) : Prop :=
  ∃ ts : List S31, run l 0 0 = R.pre ts (run (l.drop k) k ts.length) ∧ ts.length ≤ k ∧ k31.R 31 wr B (fun _ => True) v ts ∧ Below B w wr
set_option maxHeartbeats 20000000 in
set_option maxRecDepth 100000 in
theorem refTokens_any (s : ByteArray) (w : World) (hs : s.size ≤ 1000000) :
    Calls Tryd.prog 15 #[.string s] w fun e w' => (∃ v, e = .returned (.tuple #[v, .int .i64 (toks s.data.toList).2.1, .int .i64 (toks s.data.toList).2.2]) ∧ k31.R 31 w' w.heap.size (fun _ => True) v (toks s.data.toList).1) ∧ Below w.heap.size w w' := by
  have hsl := size_list s
  by_cases hbig : 16384 < s.size
  · have E : Aside0 (toks s.data.toList = ([], 0, 12)) := ⟨by unfold toks; rw [if_pos (by omega)]⟩
    clear hsl
    go_enter Tryd.func15, Tryd.ntmps15
    go_wp2
    go_ret3
    refine ⟨⟨.slice none 0 0, ?_, ?_⟩, Below.refl _ _⟩
    · rw [E.out]; rfl
    · rw [E.out]; exact Kd.R_nil _ _ _ _ _
  · obtain ⟨l, hl⟩ : ∃ l, s.data.toList = l := ⟨_, rfl⟩
    rw [hl] at hsl
    have E : Aside0 (toks s.data.toList = (run l 0 0).out) := ⟨by rw [hl]; unfold toks; rw [if_neg (by omega)]⟩
    have HL := Aside0.mk hl
    have HSL := Aside0.mk hsl
    clear hl hsl
    go_enter Tryd.func15, Tryd.ntmps15
    go_wp2
    go_loopw [5, 6] (fun v i wr => ∃ (k : Nat), i = .int .i64 k ∧ k ≤ s.size ∧ Aside0 (RTok l w.heap.size w wr v k)) (fun _ i _ => s.size - (intOf i).toNat)
    case atStart => exact ⟨0, rfl, Nat.zero_le _, ⟨[], rfl, Nat.le_refl _, lit_nil k31 31 w w.heap.size (Nat.le_refl _), below_alloc (Below.refl _ _) _⟩⟩
    case round =>
      obtain ⟨q, rfl, hk, HR⟩ := hrel
      obtain ⟨wi, rfl⟩ : ∃ wi : World, wi = wr := ⟨_, rfl⟩
      by_cases hlt : q < s.size
      · have hct := sign_here s q hlt _ rfl
        rw [HL.out] at hct
        obtain ⟨ts, hR, hts, hV, hB⟩ := HR.out
        obtain ⟨A, cc, hv, hlc, _⟩ := Kd.R_reads hV
        subst hv
        have HV := Aside0.mk hV
        have HB := Aside0.mk hB
        have hsz := hB.size
        clear hV hB HR
        by_cases hsp : isSp s[q] = true
        · have HRN : Aside0 (RTok l w.heap.size w wi (.slice A ts.length cc) (q + 1)) := ⟨ts, by
            rw [hR, hct, run_sp _ _ _ _ hsp, List.tail_drop], by omega, HV.out, HB.out⟩
          have h32 : s[q] = 32 ∨ s[q] = 10 := by
            unfold isSp at hsp
            rcases Bool.or_eq_true _ _ ▸ hsp with h | h
            · exact .inl (beq_iff_eq.1 h)
            · exact .inr (beq_iff_eq.1 h)
          rcases h32 with h | h
          · have h1 : ((s[q].toNat : Int) == 32) = true := by rw [h]; rfl
            clear h hsp hct hR HV HB
            go_wp2
            go_roundw
            case rel => exact ⟨q + 1, by go_num, by omega, HRN⟩
            case measure => simp [intOf]; omega
          · have h1 : ((s[q].toNat : Int) == 32) = false := by rw [h]; rfl
            have h2 : ((s[q].toNat : Int) == 10) = true := by rw [h]; rfl
            clear h hsp hct hR HV HB
            go_wp2
            go_roundw
            case rel => exact ⟨q + 1, by go_num, by omega, HRN⟩
            case measure => simp [intOf]; omega
        · obtain hsp : isSp s[q] = false := by simpa using hsp
          have hh : ((s[q].toNat : Int) == 32) = false ∧ ((s[q].toNat : Int) == 10) = false := by
            unfold isSp at hsp
            rw [Bool.or_eq_false_iff, beq_eq_false_iff_ne, beq_eq_false_iff_ne] at hsp
            rw [beq_eq_false_iff_ne, beq_eq_false_iff_ne]
            exact ⟨fun h => hsp.1 (UInt8.toNat_inj.1 (by have : (32 : UInt8).toNat = 32 := rfl; omega)), fun h => hsp.2 (UInt8.toNat_inj.1 (by have : (10 : UInt8).toNat = 10 := rfl; omega))⟩
          obtain ⟨h1, h2⟩ := hh
          obtain ⟨c, hc⟩ : ∃ c : UInt8, s[q] = c := ⟨_, rfl⟩
          rw [hc] at hsp hct
          have HSP := Aside0.mk hsp
          have HCT := Aside0.mk hct
          have HR := Aside0.mk hR
          have HC := Aside0.mk hc
          clear hsp hct hR hc
          by_cases hlet : isLet c = true
          · have HLET := Aside0.mk hlet
            have hl2 : isLet s[q] = true := by rw [HC.out]; exact hlet
            go_wp2_with (first | (go_at_call 24; refine (small_any _ _).mono ?_; rintro e w' ⟨rfl, rfl⟩))
            obtain ⟨n, hn⟩ : ∃ n, ((l.drop q).takeWhile isInner).length = n := ⟨_, rfl⟩
            have HN := Aside0.mk hn
            have hn2 : q + n ≤ s.size := by
              have h1 := (List.takeWhile_prefix (l := l.drop q) isInner).length_le
              rw [hn, List.length_drop, HSL.out] at h1
              omega
            have hn1 : 1 ≤ n := by rw [← hn, HCT.out, List.takeWhile_cons_of_pos (let_inner c hlet)]; simp
            clear hn
            go_loop [8] (fun i => ∃ e : Nat, i = .int .i64 e ∧ q ≤ e ∧ e ≤ q + n) (fun i => s.size - (intOf i).toNat)
            case atStart => exact ⟨q, rfl, Nat.le_refl _, by omega⟩
            case round =>
              obtain ⟨e, rfl, he0, he1⟩ := hrel
              by_cases hin : e < q + n
              · obtain ⟨he, hp⟩ := tw_at isInner s q e he0 (by rw [HL.out, HN.out]; exact hin)
                by_cases p1 : isLet s[e] = true
                · clear hp
                  go_wp2_with (first | (go_at_call 24; refine (small_any _ _).mono ?_; rintro e w' ⟨rfl, rfl⟩))
                  go_round
                  case rel => exact ⟨e + 1, by go_num, by omega, by omega⟩
                  case measure => simp [intOf]; omega
                · obtain p1 : isLet s[e] = false := by simpa using p1
                  by_cases p2 : isDig s[e] = true
                  · clear hp
                    go_wp2_with (first | (go_at_call 24; refine (small_any _ _).mono ?_; rintro e w' ⟨rfl, rfl⟩) | (go_at_call 25; refine (digit_any _ _).mono ?_; rintro e w' ⟨rfl, rfl⟩))
                    go_round
                    case rel => exact ⟨e + 1, by go_num, by omega, by omega⟩
                    case measure => simp [intOf]; omega
                  · obtain p2 : isDig s[e] = false := by simpa using p2
                    have p3 : ((s[e].toNat : Int) == 95) = true := by
                      unfold isInner at hp
                      rw [p1, p2, Bool.false_or, Bool.false_or] at hp
                      rw [beq_iff_eq.1 hp]; rfl
                    clear hp
                    go_wp2_with (first | (go_at_call 24; refine (small_any _ _).mono ?_; rintro e w' ⟨rfl, rfl⟩) | (go_at_call 25; refine (digit_any _ _).mono ?_; rintro e w' ⟨rfl, rfl⟩))
                    go_round
                    case rel => exact ⟨e + 1, by go_num, by omega, by omega⟩
                    case measure => simp [intOf]; omega
              · have hee : e = q + n := by omega
                have HEE := Aside0.mk hee
                have hqe : q < e := by omega
                have hes : e ≤ s.size := by omega
                have hx : (s.extract q e).data.toList = (l.drop q).take n := by rw [Lib.extract_data, HL.out]; congr 1; omega
                have HX := Aside0.mk hx
                clear hx hin hee he1
                by_cases hend : e < s.size
                · have hp := tw_end isInner s q e (by rw [HL.out, HN.out]; exact HEE.out) hend
                  have p1 : isLet s[e] = false := by unfold isInner at hp; cases h : isLet s[e] <;> simp [h] at hp ⊢
                  have p2 : isDig s[e] = false := by unfold isInner at hp; cases h : isDig s[e] <;> simp [h] at hp ⊢
                  have p3 : ((s[e].toNat : Int) == 95) = false := by
                    unfold isInner at hp
                    rw [p1, p2, Bool.false_or, Bool.false_or, beq_eq_false_iff_ne] at hp
                    rw [beq_eq_false_iff_ne]
                    exact fun h => hp (UInt8.toNat_inj.1 (by have : (95 : UInt8).toNat = 95 := rfl; omega))
                  clear hp
                  go_wp2_with (first | (go_at_call 24; refine (small_any _ _).mono ?_; rintro e w' ⟨rfl, rfl⟩) | (go_at_call 25; refine (digit_any _ _).mono ?_; rintro e w' ⟨rfl, rfl⟩))
                  obtain ⟨x, hxx⟩ : ∃ x, s.extract q e = x := ⟨_, rfl⟩
                  have hx := HX.out
                  rw [hxx] at hx
                  have hst : x = str ((l.drop q).take n) := by rw [← hx, str_data]
                  have HST := Aside0.mk hst
                  have HX2 := Aside0.mk hx
                  have HXX := Aside0.mk hxx
                  clear hx hst
                  have hqe2 : ((e : Int) == (q : Int)) = false := beq_eq_false_iff_ne.2 (by omega)
                  have HTL : Aside0 (((l.drop q).take n).length = e - q) := ⟨by rw [List.length_take, List.length_drop, HSL.out]; have := HEE.out; omega⟩
                  rw [hxx]
                  have bA := Aside0.mk (below_alloc' HB.out (Nat.le_refl _) (.cells #[.int .i64 1, .string ⟨#[]⟩, .int .i64 q] 31))
                  have NA := Aside0.mk (blk_new wi (.cells #[.int .i64 1, .string ⟨#[]⟩, .int .i64 q] 31))
                  have VA := Aside0.mk (Kd.R_alloc (Kd.R_elderB HV.out wi.heap.size (Nat.le_refl _)) (.cells #[.int .i64 1, .string ⟨#[]⟩, .int .i64 q] 31))
                  refine (refWord_any x _).mono ?_
                  rintro e5 w5 ⟨rfl, b5⟩
                  rw [HX2.out]
                  have N5 := Aside0.mk (blk_below NA.out b5)
                  have B5 := Aside0.mk (below_then bA.out bA.out.size b5)
                  have V5 := Aside0.mk (Kd.R_below VA.out b5)
                  have hz5 := b5.size
                  simp at hz5
                  clear b5
                  have c0 : w5.cell? ⟨wi.heap.size, 0, none⟩ = some (.int .i64 1) := blk_cell N5.out 0
                  have c1 : w5.cell? ⟨wi.heap.size, 1, none⟩ = some (.string ⟨#[]⟩) := blk_cell N5.out 1
                  have c2 : w5.cell? ⟨wi.heap.size, 2, none⟩ = some (.int .i64 q) := blk_cell N5.out 2
                  have f0 : w5.frozen? ⟨wi.heap.size, 0, none⟩ = false := blk_frozen N5.out _
                  have f1 : w5.frozen? ⟨wi.heap.size, 1, none⟩ = false := blk_frozen N5.out _
                  obtain ⟨b, hb⟩ : ∃ b, isWord ((l.drop q).take n) = b := ⟨_, rfl⟩
                  have HBW := Aside0.mk hb
                  rw [hb]
                  clear hb
                  have HCUT : Aside0 (cutM (l.drop q) = (if b then 4 else 1, n)) := ⟨by
                    rw [HCT.out]; simp only [cutM]; rw [if_pos HLET.out, ← HCT.out, HN.out, HBW.out]⟩
                  have HMM : Aside0 ((cutM (l.drop q)).2 = n) := ⟨by rw [HCUT.out]⟩
                  have hwz : w.heap.size ≤ wi.heap.size := hsz
                  cases b with
                  | true =>
                    have HK : Aside0 ((cutM (l.drop q)).1 = 4) := ⟨by rw [HCUT.out]; rfl⟩
                    by_cases ha : 4096 ≤ ts.length
                    · have HER : Aside0 (errAt (c :: (l.drop q).tail) ts.length = 12) := ⟨by unfold errAt; rw [← HCT.out, HK.out, HMM.out]; unfold wrongM; rw [if_neg (by decide), if_pos (.inr ha)]⟩
                      have HE : Aside0 (toks s.data.toList = ([], (q : Int), 12)) := ⟨by
                        rw [E.out, HR.out, HCT.out, run_bad c _ q ts.length HSP.out (by rw [HER.out]; decide), pre_bad, HER.out]; rfl⟩
                      go_wp2_with (first | (go_at_call 24; refine (small_any _ _).mono ?_; rintro e w' ⟨rfl, rfl⟩) | (go_at_call 25; refine (digit_any _ _).mono ?_; rintro e w' ⟨rfl, rfl⟩))
                      all_goals
                        go_ret3
                        refine ⟨⟨.slice none 0 0, ?_, ?_⟩, (below_set (below_set B5.out hwz) hwz)⟩
                        · rw [HE.out]; rfl
                        · rw [HE.out]; exact Kd.R_nil _ _ _ _ _
                    · have HER : Aside0 (errAt (c :: (l.drop q).tail) ts.length = 0) := ⟨by unfold errAt; rw [← HCT.out, HK.out, HMM.out]; unfold wrongM; rw [if_neg (by decide), if_neg (by rintro (⟨h, _⟩ | h); (cases h); omega), if_neg (by rintro ⟨h, _⟩; cases h)]⟩
                      have HRN : Aside0 (run l 0 0 = R.pre (ts ++ [⟨4, x, q⟩]) (run (l.drop (q + n)) (q + n) (ts ++ [(⟨4, x, q⟩ : S31)]).length)) := ⟨by
                        rw [HR.out, HCT.out, run_tok c _ q ts.length HSP.out HER.out, pre_snoc, ← HCT.out, HMM.out, List.drop_drop, List.length_append]
                        congr 3
                        unfold tokAt
                        rw [HK.out, HMM.out, HST.out]⟩
                      go_wp2_with (first | (go_at_call 24; refine (small_any _ _).mono ?_; rintro e w' ⟨rfl, rfl⟩) | (go_at_call 25; refine (digit_any _ _).mono ?_; rintro e w' ⟨rfl, rfl⟩) | (at_builtin; go_loud (refine Kd.R_append k31 w.heap.size rfl (.tmp 136) (.tmp 138) 24 31 _ 32 rfl Tryd.underlying24 info31 rfl (by decide) (by decide) (.slice A ts.length cc) ts ⟨4, x, q⟩ [.int .i64 4, .string x, .int .i64 q] (fun k => True ∧ k ≠ wi.heap.size) (fun _ => False) rfl (by simp [Act.eval]) (k31_mkM _ _ _ ⟨4, x, q⟩) (fun _ h => h.elim) (fun k hk => ⟨trivial, by simp at hk; omega⟩) (Kd.R_far (Kd.R_far V5.out (p := ⟨wi.heap.size, 0, none⟩) (fun _ hk => hk.2) _) (p := ⟨wi.heap.size, 1, none⟩) (fun _ hk => hk.2) _) (below_set (below_set B5.out hwz) hwz) (by simp; omega) (by omega) ?_; intro v1 w1 hv1 hb1 hg1 hat1)))
                      have V6 := Aside0.mk (Kd.R_mono hv1 (fun _ _ => trivial))
                      have B6 := Aside0.mk hb1
                      clear hv1 hb1 hg1 hat1
                      go_wp2
                      go_roundw
                      case rel => exact ⟨e, by go_num, hes, ⟨ts ++ [⟨4, x, q⟩], by rw [HEE.out]; exact HRN.out, by simp; omega, V6.out, B6.out⟩⟩
                      case measure => simp [intOf]; omega
                  | false =>
                    have HK : Aside0 ((cutM (l.drop q)).1 = 1) := ⟨by rw [HCUT.out]; rfl⟩
                    by_cases ha : 4096 ≤ ts.length
                    · have HER : Aside0 (errAt (c :: (l.drop q).tail) ts.length = 12) := ⟨by unfold errAt; rw [← HCT.out, HK.out, HMM.out]; unfold wrongM; rw [if_neg (by decide), if_pos (.inr ha)]⟩
                      have HE : Aside0 (toks s.data.toList = ([], (q : Int), 12)) := ⟨by
                        rw [E.out, HR.out, HCT.out, run_bad c _ q ts.length HSP.out (by rw [HER.out]; decide), pre_bad, HER.out]; rfl⟩
                      go_wp2_with (first | (go_at_call 24; refine (small_any _ _).mono ?_; rintro e w' ⟨rfl, rfl⟩) | (go_at_call 25; refine (digit_any _ _).mono ?_; rintro e w' ⟨rfl, rfl⟩))
                      all_goals
                        go_ret3
                        refine ⟨⟨.slice none 0 0, ?_, ?_⟩, (below_set B5.out hwz)⟩
                        · rw [HE.out]; rfl
                        · rw [HE.out]; exact Kd.R_nil _ _ _ _ _
                    · by_cases h16 : (16 : Int) < (e : Int) - (q : Int)
                      · have HER : Aside0 (errAt (c :: (l.drop q).tail) ts.length = 12) := ⟨by unfold errAt; rw [← HCT.out, HK.out, HMM.out]; unfold wrongM; rw [if_neg (by decide), if_pos (.inl ⟨rfl, by rw [HTL.out]; omega⟩)]⟩
                        have HE : Aside0 (toks s.data.toList = ([], (q : Int), 12)) := ⟨by
                          rw [E.out, HR.out, HCT.out, run_bad c _ q ts.length HSP.out (by rw [HER.out]; decide), pre_bad, HER.out]; rfl⟩
                        go_wp2_with (first | (go_at_call 24; refine (small_any _ _).mono ?_; rintro e w' ⟨rfl, rfl⟩) | (go_at_call 25; refine (digit_any _ _).mono ?_; rintro e w' ⟨rfl, rfl⟩))
                        all_goals
                          go_ret3
                          refine ⟨⟨.slice none 0 0, ?_, ?_⟩, (below_set B5.out hwz)⟩
                          · rw [HE.out]; rfl
                          · rw [HE.out]; exact Kd.R_nil _ _ _ _ _
                      · have HER : Aside0 (errAt (c :: (l.drop q).tail) ts.length = 0) := ⟨by unfold errAt; rw [← HCT.out, HK.out, HMM.out]; unfold wrongM; rw [if_neg (by decide), if_neg (by rintro (⟨_, h⟩ | h); (rw [HTL.out] at h; omega); omega), if_neg (by rintro ⟨h, _⟩; cases h)]⟩
                        have HRN : Aside0 (run l 0 0 = R.pre (ts ++ [⟨1, x, q⟩]) (run (l.drop (q + n)) (q + n) (ts ++ [(⟨1, x, q⟩ : S31)]).length)) := ⟨by
                          rw [HR.out, HCT.out, run_tok c _ q ts.length HSP.out HER.out, pre_snoc, ← HCT.out, HMM.out, List.drop_drop, List.length_append]
                          congr 3
                          unfold tokAt
                          rw [HK.out, HMM.out, HST.out]⟩
                        go_wp2_with (first | (go_at_call 24; refine (small_any _ _).mono ?_; rintro e w' ⟨rfl, rfl⟩) | (go_at_call 25; refine (digit_any _ _).mono ?_; rintro e w' ⟨rfl, rfl⟩) | (at_builtin; go_loud (refine Kd.R_append k31 w.heap.size rfl (.tmp 136) (.tmp 138) 24 31 _ 32 rfl Tryd.underlying24 info31 rfl (by decide) (by decide) (.slice A ts.length cc) ts ⟨1, x, q⟩ [.int .i64 1, .string x, .int .i64 q] (fun k => True ∧ k ≠ wi.heap.size) (fun _ => False) rfl (by simp [Act.eval]) (k31_mkM _ _ _ ⟨1, x, q⟩) (fun _ h => h.elim) (fun k hk => ⟨trivial, by simp at hk; omega⟩) (Kd.R_far V5.out (p := ⟨wi.heap.size, 1, none⟩) (fun _ hk => hk.2) _) (below_set B5.out hwz) (by simp; omega) (by omega) ?_; intro v1 w1 hv1 hb1 hg1 hat1)))
                        have V6 := Aside0.mk (Kd.R_mono hv1 (fun _ _ => trivial))
                        have B6 := Aside0.mk hb1
                        clear hv1 hb1 hg1 hat1
                        go_wp2
                        go_roundw
                        case rel => exact ⟨e, by go_num, hes, ⟨ts ++ [⟨1, x, q⟩], by rw [HEE.out]; exact HRN.out, by simp; omega, V6.out, B6.out⟩⟩
                        case measure => simp [intOf]; omega
                · go_wp2_with (first | (go_at_call 24; refine (small_any _ _).mono ?_; rintro e w' ⟨rfl, rfl⟩) | (go_at_call 25; refine (digit_any _ _).mono ?_; rintro e w' ⟨rfl, rfl⟩))
                  obtain ⟨x, hxx⟩ : ∃ x, s.extract q e = x := ⟨_, rfl⟩
                  have hx := HX.out
                  rw [hxx] at hx
                  have hst : x = str ((l.drop q).take n) := by rw [← hx, str_data]
                  have HST := Aside0.mk hst
                  have HX2 := Aside0.mk hx
                  have HXX := Aside0.mk hxx
                  clear hx hst
                  have hqe2 : ((e : Int) == (q : Int)) = false := beq_eq_false_iff_ne.2 (by omega)
                  have HTL : Aside0 (((l.drop q).take n).length = e - q) := ⟨by rw [List.length_take, List.length_drop, HSL.out]; have := HEE.out; omega⟩
                  rw [hxx]
                  have bA := Aside0.mk (below_alloc' HB.out (Nat.le_refl _) (.cells #[.int .i64 1, .string ⟨#[]⟩, .int .i64 q] 31))
                  have NA := Aside0.mk (blk_new wi (.cells #[.int .i64 1, .string ⟨#[]⟩, .int .i64 q] 31))
                  have VA := Aside0.mk (Kd.R_alloc (Kd.R_elderB HV.out wi.heap.size (Nat.le_refl _)) (.cells #[.int .i64 1, .string ⟨#[]⟩, .int .i64 q] 31))
                  refine (refWord_any x _).mono ?_
                  rintro e5 w5 ⟨rfl, b5⟩
                  rw [HX2.out]
                  have N5 := Aside0.mk (blk_below NA.out b5)
                  have B5 := Aside0.mk (below_then bA.out bA.out.size b5)
                  have V5 := Aside0.mk (Kd.R_below VA.out b5)
                  have hz5 := b5.size
                  simp at hz5
                  clear b5
                  have c0 : w5.cell? ⟨wi.heap.size, 0, none⟩ = some (.int .i64 1) := blk_cell N5.out 0
                  have c1 : w5.cell? ⟨wi.heap.size, 1, none⟩ = some (.string ⟨#[]⟩) := blk_cell N5.out 1
                  have c2 : w5.cell? ⟨wi.heap.size, 2, none⟩ = some (.int .i64 q) := blk_cell N5.out 2
                  have f0 : w5.frozen? ⟨wi.heap.size, 0, none⟩ = false := blk_frozen N5.out _
                  have f1 : w5.frozen? ⟨wi.heap.size, 1, none⟩ = false := blk_frozen N5.out _
                  obtain ⟨b, hb⟩ : ∃ b, isWord ((l.drop q).take n) = b := ⟨_, rfl⟩
                  have HBW := Aside0.mk hb
                  rw [hb]
                  clear hb
                  have HCUT : Aside0 (cutM (l.drop q) = (if b then 4 else 1, n)) := ⟨by
                    rw [HCT.out]; simp only [cutM]; rw [if_pos HLET.out, ← HCT.out, HN.out, HBW.out]⟩
                  have HMM : Aside0 ((cutM (l.drop q)).2 = n) := ⟨by rw [HCUT.out]⟩
                  have hwz : w.heap.size ≤ wi.heap.size := hsz
                  cases b with
                  | true =>
                    have HK : Aside0 ((cutM (l.drop q)).1 = 4) := ⟨by rw [HCUT.out]; rfl⟩
                    by_cases ha : 4096 ≤ ts.length
                    · have HER : Aside0 (errAt (c :: (l.drop q).tail) ts.length = 12) := ⟨by unfold errAt; rw [← HCT.out, HK.out, HMM.out]; unfold wrongM; rw [if_neg (by decide), if_pos (.inr ha)]⟩
                      have HE : Aside0 (toks s.data.toList = ([], (q : Int), 12)) := ⟨by
                        rw [E.out, HR.out, HCT.out, run_bad c _ q ts.length HSP.out (by rw [HER.out]; decide), pre_bad, HER.out]; rfl⟩
                      go_wp2_with (first | (go_at_call 24; refine (small_any _ _).mono ?_; rintro e w' ⟨rfl, rfl⟩) | (go_at_call 25; refine (digit_any _ _).mono ?_; rintro e w' ⟨rfl, rfl⟩))
                      all_goals
                        go_ret3
                        refine ⟨⟨.slice none 0 0, ?_, ?_⟩, (below_set (below_set B5.out hwz) hwz)⟩
                        · rw [HE.out]; rfl
                        · rw [HE.out]; exact Kd.R_nil _ _ _ _ _
                    · have HER : Aside0 (errAt (c :: (l.drop q).tail) ts.length = 0) := ⟨by unfold errAt; rw [← HCT.out, HK.out, HMM.out]; unfold wrongM; rw [if_neg (by decide), if_neg (by rintro (⟨h, _⟩ | h); (cases h); omega), if_neg (by rintro ⟨h, _⟩; cases h)]⟩
                      have HRN : Aside0 (run l 0 0 = R.pre (ts ++ [⟨4, x, q⟩]) (run (l.drop (q + n)) (q + n) (ts ++ [(⟨4, x, q⟩ : S31)]).length)) := ⟨by
                        rw [HR.out, HCT.out, run_tok c _ q ts.length HSP.out HER.out, pre_snoc, ← HCT.out, HMM.out, List.drop_drop, List.length_append]
                        congr 3
                        unfold tokAt
                        rw [HK.out, HMM.out, HST.out]⟩
                      go_wp2_with (first | (go_at_call 24; refine (small_any _ _).mono ?_; rintro e w' ⟨rfl, rfl⟩) | (go_at_call 25; refine (digit_any _ _).mono ?_; rintro e w' ⟨rfl, rfl⟩) | (at_builtin; go_loud (refine Kd.R_append k31 w.heap.size rfl (.tmp 136) (.tmp 138) 24 31 _ 32 rfl Tryd.underlying24 info31 rfl (by decide) (by decide) (.slice A ts.length cc) ts ⟨4, x, q⟩ [.int .i64 4, .string x, .int .i64 q] (fun k => True ∧ k ≠ wi.heap.size) (fun _ => False) rfl (by simp [Act.eval]) (k31_mkM _ _ _ ⟨4, x, q⟩) (fun _ h => h.elim) (fun k hk => ⟨trivial, by simp at hk; omega⟩) (Kd.R_far (Kd.R_far V5.out (p := ⟨wi.heap.size, 0, none⟩) (fun _ hk => hk.2) _) (p := ⟨wi.heap.size, 1, none⟩) (fun _ hk => hk.2) _) (below_set (below_set B5.out hwz) hwz) (by simp; omega) (by omega) ?_; intro v1 w1 hv1 hb1 hg1 hat1)))
                      have V6 := Aside0.mk (Kd.R_mono hv1 (fun _ _ => trivial))
                      have B6 := Aside0.mk hb1
                      clear hv1 hb1 hg1 hat1
                      go_wp2
                      go_roundw
                      case rel => exact ⟨e, by go_num, hes, ⟨ts ++ [⟨4, x, q⟩], by rw [HEE.out]; exact HRN.out, by simp; omega, V6.out, B6.out⟩⟩
                      case measure => simp [intOf]; omega
                  | false =>
                    have HK : Aside0 ((cutM (l.drop q)).1 = 1) := ⟨by rw [HCUT.out]; rfl⟩
                    by_cases ha : 4096 ≤ ts.length
                    · have HER : Aside0 (errAt (c :: (l.drop q).tail) ts.length = 12) := ⟨by unfold errAt; rw [← HCT.out, HK.out, HMM.out]; unfold wrongM; rw [if_neg (by decide), if_pos (.inr ha)]⟩
                      have HE : Aside0 (toks s.data.toList = ([], (q : Int), 12)) := ⟨by
                        rw [E.out, HR.out, HCT.out, run_bad c _ q ts.length HSP.out (by rw [HER.out]; decide), pre_bad, HER.out]; rfl⟩
                      go_wp2_with (first | (go_at_call 24; refine (small_any _ _).mono ?_; rintro e w' ⟨rfl, rfl⟩) | (go_at_call 25; refine (digit_any _ _).mono ?_; rintro e w' ⟨rfl, rfl⟩))
                      all_goals
                        go_ret3
                        refine ⟨⟨.slice none 0 0, ?_, ?_⟩, (below_set B5.out hwz)⟩
                        · rw [HE.out]; rfl
                        · rw [HE.out]; exact Kd.R_nil _ _ _ _ _
                    · by_cases h16 : (16 : Int) < (e : Int) - (q : Int)
                      · have HER : Aside0 (errAt (c :: (l.drop q).tail) ts.length = 12) := ⟨by unfold errAt; rw [← HCT.out, HK.out, HMM.out]; unfold wrongM; rw [if_neg (by decide), if_pos (.inl ⟨rfl, by rw [HTL.out]; omega⟩)]⟩
                        have HE : Aside0 (toks s.data.toList = ([], (q : Int), 12)) := ⟨by
                          rw [E.out, HR.out, HCT.out, run_bad c _ q ts.length HSP.out (by rw [HER.out]; decide), pre_bad, HER.out]; rfl⟩
                        go_wp2_with (first | (go_at_call 24; refine (small_any _ _).mono ?_; rintro e w' ⟨rfl, rfl⟩) | (go_at_call 25; refine (digit_any _ _).mono ?_; rintro e w' ⟨rfl, rfl⟩))
                        all_goals
                          go_ret3
                          refine ⟨⟨.slice none 0 0, ?_, ?_⟩, (below_set B5.out hwz)⟩
                          · rw [HE.out]; rfl
                          · rw [HE.out]; exact Kd.R_nil _ _ _ _ _
                      · have HER : Aside0 (errAt (c :: (l.drop q).tail) ts.length = 0) := ⟨by unfold errAt; rw [← HCT.out, HK.out, HMM.out]; unfold wrongM; rw [if_neg (by decide), if_neg (by rintro (⟨_, h⟩ | h); (rw [HTL.out] at h; omega); omega), if_neg (by rintro ⟨h, _⟩; cases h)]⟩
                        have HRN : Aside0 (run l 0 0 = R.pre (ts ++ [⟨1, x, q⟩]) (run (l.drop (q + n)) (q + n) (ts ++ [(⟨1, x, q⟩ : S31)]).length)) := ⟨by
                          rw [HR.out, HCT.out, run_tok c _ q ts.length HSP.out HER.out, pre_snoc, ← HCT.out, HMM.out, List.drop_drop, List.length_append]
                          congr 3
                          unfold tokAt
                          rw [HK.out, HMM.out, HST.out]⟩
                        go_wp2_with (first | (go_at_call 24; refine (small_any _ _).mono ?_; rintro e w' ⟨rfl, rfl⟩) | (go_at_call 25; refine (digit_any _ _).mono ?_; rintro e w' ⟨rfl, rfl⟩) | (at_builtin; go_loud (refine Kd.R_append k31 w.heap.size rfl (.tmp 136) (.tmp 138) 24 31 _ 32 rfl Tryd.underlying24 info31 rfl (by decide) (by decide) (.slice A ts.length cc) ts ⟨1, x, q⟩ [.int .i64 1, .string x, .int .i64 q] (fun k => True ∧ k ≠ wi.heap.size) (fun _ => False) rfl (by simp [Act.eval]) (k31_mkM _ _ _ ⟨1, x, q⟩) (fun _ h => h.elim) (fun k hk => ⟨trivial, by simp at hk; omega⟩) (Kd.R_far V5.out (p := ⟨wi.heap.size, 1, none⟩) (fun _ hk => hk.2) _) (below_set B5.out hwz) (by simp; omega) (by omega) ?_; intro v1 w1 hv1 hb1 hg1 hat1)))
                        have V6 := Aside0.mk (Kd.R_mono hv1 (fun _ _ => trivial))
                        have B6 := Aside0.mk hb1
                        clear hv1 hb1 hg1 hat1
                        go_wp2
                        go_roundw
                        case rel => exact ⟨e, by go_num, hes, ⟨ts ++ [⟨1, x, q⟩], by rw [HEE.out]; exact HRN.out, by simp; omega, V6.out, B6.out⟩⟩
                        case measure => simp [intOf]; omega
          · obtain hlet : isLet c = false := by simpa using hlet
            have HLET := Aside0.mk hlet
            have hl2 : isLet s[q] = false := by rw [HC.out]; exact hlet
            clear hlet
            by_cases hdig : isDig c = true
            · have HDIG := Aside0.mk hdig
              have hd2 : isDig s[q] = true := by rw [HC.out]; exact hdig
              go_wp2_with (first | (go_at_call 24; refine (small_any _ _).mono ?_; rintro e w' ⟨rfl, rfl⟩) | (go_at_call 25; refine (digit_any _ _).mono ?_; rintro e w' ⟨rfl, rfl⟩))
              obtain ⟨n, hn⟩ : ∃ n, ((l.drop q).takeWhile isDig).length = n := ⟨_, rfl⟩
              have HN := Aside0.mk hn
              have hn2 : q + n ≤ s.size := by
                have h1 := (List.takeWhile_prefix (l := l.drop q) isDig).length_le
                rw [hn, List.length_drop, HSL.out] at h1
                omega
              have hn1 : 1 ≤ n := by rw [← hn, HCT.out, List.takeWhile_cons_of_pos hdig]; simp
              clear hn
              go_loop [8] (fun i => ∃ e : Nat, i = .int .i64 e ∧ q ≤ e ∧ e ≤ q + n) (fun i => s.size - (intOf i).toNat)
              case atStart => exact ⟨q, rfl, Nat.le_refl _, by omega⟩
              case round =>
                obtain ⟨e, rfl, he0, he1⟩ := hrel
                by_cases hin : e < q + n
                · obtain ⟨he, p2⟩ := tw_at isDig s q e he0 (by rw [HL.out, HN.out]; exact hin)
                  go_wp2_with (first | (go_at_call 24; refine (small_any _ _).mono ?_; rintro e w' ⟨rfl, rfl⟩) | (go_at_call 25; refine (digit_any _ _).mono ?_; rintro e w' ⟨rfl, rfl⟩))
                  go_round
                  case rel => exact ⟨e + 1, by go_num, by omega, by omega⟩
                  case measure => simp [intOf]; omega
                · have hee : e = q + n := by omega
                  have HEE := Aside0.mk hee
                  have hqe : q < e := by omega
                  have hes : e ≤ s.size := by omega
                  have hx : (s.extract q e).data.toList = (l.drop q).take n := by rw [Lib.extract_data, HL.out]; congr 1; omega
                  have HX := Aside0.mk hx
                  clear hx hin hee he1
                  by_cases hend : e < s.size
                  · have p2 := tw_end isDig s q e (by rw [HL.out, HN.out]; exact HEE.out) hend
                    obtain ⟨x, hxx⟩ : ∃ x, s.extract q e = x := ⟨_, rfl⟩
                    have hx := HX.out
                    rw [hxx] at hx
                    have hst : x = str ((l.drop q).take n) := by rw [← hx, str_data]
                    have HST := Aside0.mk hst
                    have HX2 := Aside0.mk hx
                    have HXX := Aside0.mk hxx
                    clear hx hst
                    have hqe2 : ((e : Int) == (q : Int)) = false := beq_eq_false_iff_ne.2 (by omega)
                    have HTL : Aside0 (((l.drop q).take n).length = e - q) := ⟨by rw [List.length_take, List.length_drop, HSL.out]; have := HEE.out; omega⟩
                    have HHD : Aside0 (((l.drop q).take n).head? = some c) := ⟨by rw [HCT.out]; cases n with
                      | zero => omega
                      | succ n => rfl⟩
                    have HCUT : Aside0 (cutM (l.drop q) = (2, n)) := ⟨by rw [HCT.out]; simp only [cutM]; rw [HLET.out, HDIG.out, ← HCT.out, HN.out]; rfl⟩
                    have HMM : Aside0 ((cutM (l.drop q)).2 = n) := ⟨by rw [HCUT.out]⟩
                    have HK : Aside0 ((cutM (l.drop q)).1 = 2) := ⟨by rw [HCUT.out]⟩
                    by_cases ha : 4096 ≤ ts.length
                    · have HER : Aside0 (errAt (c :: (l.drop q).tail) ts.length = 12) := ⟨by unfold errAt; rw [← HCT.out, HK.out, HMM.out]; unfold wrongM; rw [if_neg (by decide), if_pos (.inr ha)]⟩
                      have HE : Aside0 (toks s.data.toList = ([], (q : Int), 12)) := ⟨by
                        rw [E.out, HR.out, HCT.out, run_bad c _ q ts.length HSP.out (by rw [HER.out]; decide), pre_bad, HER.out]; rfl⟩
                      go_wp2_with (first | (go_at_call 24; refine (small_any _ _).mono ?_; rintro e w' ⟨rfl, rfl⟩) | (go_at_call 25; refine (digit_any _ _).mono ?_; rintro e w' ⟨rfl, rfl⟩))
                      all_goals
                        go_ret3
                        refine ⟨⟨.slice none 0 0, ?_, ?_⟩, (below_alloc' HB.out (Nat.le_refl _) _)⟩
                        · rw [HE.out]; rfl
                        · rw [HE.out]; exact Kd.R_nil _ _ _ _ _
                    · by_cases h18 : (18 : Int) < (e : Int) - (q : Int)
                      · have HER : Aside0 (errAt (c :: (l.drop q).tail) ts.length = 11) := ⟨by unfold errAt; rw [← HCT.out, HK.out, HMM.out]; unfold wrongM; rw [if_neg (by decide), if_neg (by rintro (⟨h, _⟩ | h); (cases h); omega), if_pos ⟨rfl, .inl (by rw [HTL.out]; omega)⟩]⟩
                        have HE : Aside0 (toks s.data.toList = ([], (q : Int), 11)) := ⟨by
                          rw [E.out, HR.out, HCT.out, run_bad c _ q ts.length HSP.out (by rw [HER.out]; decide), pre_bad, HER.out]; rfl⟩
                        go_wp2_with (first | (go_at_call 24; refine (small_any _ _).mono ?_; rintro e w' ⟨rfl, rfl⟩) | (go_at_call 25; refine (digit_any _ _).mono ?_; rintro e w' ⟨rfl, rfl⟩))
                        all_goals
                          go_ret3
                          refine ⟨⟨.slice none 0 0, ?_, ?_⟩, (below_alloc' HB.out (Nat.le_refl _) _)⟩
                          · rw [HE.out]; rfl
                          · rw [HE.out]; exact Kd.R_nil _ _ _ _ _
                      · by_cases hone : (1 : Int) < (e : Int) - (q : Int)
                        · by_cases hz : ((s[q].toNat : Int) == 48) = true
                          · have hz2 : c = 48 := by rw [← HC.out]; have := beq_iff_eq.1 hz; exact UInt8.toNat_inj.1 (by have h48 : (48 : UInt8).toNat = 48 := rfl; omega)
                            have HZ2 := Aside0.mk hz2
                            clear hz2
                            have HER : Aside0 (errAt (c :: (l.drop q).tail) ts.length = 11) := ⟨by unfold errAt; rw [← HCT.out, HK.out, HMM.out]; unfold wrongM; rw [if_neg (by decide), if_neg (by rintro (⟨h, _⟩ | h); (cases h); omega), if_pos ⟨rfl, .inr ⟨by rw [HTL.out]; omega, by rw [HHD.out, HZ2.out]⟩⟩]⟩
                            have HE : Aside0 (toks s.data.toList = ([], (q : Int), 11)) := ⟨by
                              rw [E.out, HR.out, HCT.out, run_bad c _ q ts.length HSP.out (by rw [HER.out]; decide), pre_bad, HER.out]; rfl⟩
                            go_wp2_with (first | (go_at_call 24; refine (small_any _ _).mono ?_; rintro e w' ⟨rfl, rfl⟩) | (go_at_call 25; refine (digit_any _ _).mono ?_; rintro e w' ⟨rfl, rfl⟩))
                            all_goals
                              go_ret3
                              refine ⟨⟨.slice none 0 0, ?_, ?_⟩, (below_alloc' HB.out (Nat.le_refl _) _)⟩
                              · rw [HE.out]; rfl
                              · rw [HE.out]; exact Kd.R_nil _ _ _ _ _
                          · obtain hz : ((s[q].toNat : Int) == 48) = false := by simpa using hz
                            have hz2 : c ≠ 48 := by
                              intro h
                              rw [HC.out, h] at hz
                              cases hz
                            have HZ2 := Aside0.mk hz2
                            clear hz2
                            have HER : Aside0 (errAt (c :: (l.drop q).tail) ts.length = 0) := ⟨by unfold errAt; rw [← HCT.out, HK.out, HMM.out]; unfold wrongM; rw [if_neg (by decide), if_neg (by rintro (⟨h, _⟩ | h); (cases h); omega), if_neg (by rintro ⟨_, h | ⟨_, h⟩⟩; (rw [HTL.out] at h; omega); (rw [HHD.out] at h; exact HZ2.out (Option.some.inj h)))]⟩
                            have HRN : Aside0 (run l 0 0 = R.pre (ts ++ [⟨2, x, q⟩]) (run (l.drop (q + n)) (q + n) (ts ++ [(⟨2, x, q⟩ : S31)]).length)) := ⟨by
                              rw [HR.out, HCT.out, run_tok c _ q ts.length HSP.out HER.out, pre_snoc, ← HCT.out, HMM.out, List.drop_drop, List.length_append]
                              congr 3
                              unfold tokAt
                              rw [HK.out, HMM.out, HST.out]⟩
                            go_wp2_with (first | (go_at_call 24; refine (small_any _ _).mono ?_; rintro e w' ⟨rfl, rfl⟩) | (go_at_call 25; refine (digit_any _ _).mono ?_; rintro e w' ⟨rfl, rfl⟩) | (at_builtin; go_loud (refine Kd.R_append k31 w.heap.size rfl (.tmp 136) (.tmp 138) 24 31 _ 32 rfl Tryd.underlying24 info31 rfl (by decide) (by decide) (.slice A ts.length cc) ts ⟨2, x, q⟩ [.int .i64 2, .string x, .int .i64 q] (fun _ => True) (fun _ => False) rfl (by simp [Act.eval]) (k31_mkM _ _ _ ⟨2, x, q⟩) (fun _ h => h.elim) (fun _ _ => trivial) (Kd.R_alloc HV.out _) (below_alloc' HB.out (Nat.le_refl _) _) (by simp; omega) (by omega) ?_; intro v1 w1 hv1 hb1 hg1 hat1)))
                            have V6 := Aside0.mk (Kd.R_mono hv1 (fun _ _ => trivial))
                            have B6 := Aside0.mk hb1
                            clear hv1 hb1 hg1 hat1
                            go_wp2
                            go_roundw
                            case rel => exact ⟨e, by go_num, hes, ⟨ts ++ [⟨2, x, q⟩], by rw [HEE.out]; exact HRN.out, by simp; omega, V6.out, B6.out⟩⟩
                            case measure => simp [intOf]; omega
                        · have HER : Aside0 (errAt (c :: (l.drop q).tail) ts.length = 0) := ⟨by unfold errAt; rw [← HCT.out, HK.out, HMM.out]; unfold wrongM; rw [if_neg (by decide), if_neg (by rintro (⟨h, _⟩ | h); (cases h); omega), if_neg (by rintro ⟨_, h | ⟨h, _⟩⟩ <;> (rw [HTL.out] at h; omega))]⟩
                          have HRN : Aside0 (run l 0 0 = R.pre (ts ++ [⟨2, x, q⟩]) (run (l.drop (q + n)) (q + n) (ts ++ [(⟨2, x, q⟩ : S31)]).length)) := ⟨by
                            rw [HR.out, HCT.out, run_tok c _ q ts.length HSP.out HER.out, pre_snoc, ← HCT.out, HMM.out, List.drop_drop, List.length_append]
                            congr 3
                            unfold tokAt
                            rw [HK.out, HMM.out, HST.out]⟩
                          go_wp2_with (first | (go_at_call 24; refine (small_any _ _).mono ?_; rintro e w' ⟨rfl, rfl⟩) | (go_at_call 25; refine (digit_any _ _).mono ?_; rintro e w' ⟨rfl, rfl⟩) | (at_builtin; go_loud (refine Kd.R_append k31 w.heap.size rfl (.tmp 136) (.tmp 138) 24 31 _ 32 rfl Tryd.underlying24 info31 rfl (by decide) (by decide) (.slice A ts.length cc) ts ⟨2, x, q⟩ [.int .i64 2, .string x, .int .i64 q] (fun _ => True) (fun _ => False) rfl (by simp [Act.eval]) (k31_mkM _ _ _ ⟨2, x, q⟩) (fun _ h => h.elim) (fun _ _ => trivial) (Kd.R_alloc HV.out _) (below_alloc' HB.out (Nat.le_refl _) _) (by simp; omega) (by omega) ?_; intro v1 w1 hv1 hb1 hg1 hat1)))
                          have V6 := Aside0.mk (Kd.R_mono hv1 (fun _ _ => trivial))
                          have B6 := Aside0.mk hb1
                          clear hv1 hb1 hg1 hat1
                          go_wp2
                          go_roundw
                          case rel => exact ⟨e, by go_num, hes, ⟨ts ++ [⟨2, x, q⟩], by rw [HEE.out]; exact HRN.out, by simp; omega, V6.out, B6.out⟩⟩
                          case measure => simp [intOf]; omega
                  · skip
                    obtain ⟨x, hxx⟩ : ∃ x, s.extract q e = x := ⟨_, rfl⟩
                    have hx := HX.out
                    rw [hxx] at hx
                    have hst : x = str ((l.drop q).take n) := by rw [← hx, str_data]
                    have HST := Aside0.mk hst
                    have HX2 := Aside0.mk hx
                    have HXX := Aside0.mk hxx
                    clear hx hst
                    have hqe2 : ((e : Int) == (q : Int)) = false := beq_eq_false_iff_ne.2 (by omega)
                    have HTL : Aside0 (((l.drop q).take n).length = e - q) := ⟨by rw [List.length_take, List.length_drop, HSL.out]; have := HEE.out; omega⟩
                    have HHD : Aside0 (((l.drop q).take n).head? = some c) := ⟨by rw [HCT.out]; cases n with
                      | zero => omega
                      | succ n => rfl⟩
                    have HCUT : Aside0 (cutM (l.drop q) = (2, n)) := ⟨by rw [HCT.out]; simp only [cutM]; rw [HLET.out, HDIG.out, ← HCT.out, HN.out]; rfl⟩
                    have HMM : Aside0 ((cutM (l.drop q)).2 = n) := ⟨by rw [HCUT.out]⟩
                    have HK : Aside0 ((cutM (l.drop q)).1 = 2) := ⟨by rw [HCUT.out]⟩
                    by_cases ha : 4096 ≤ ts.length
                    · have HER : Aside0 (errAt (c :: (l.drop q).tail) ts.length = 12) := ⟨by unfold errAt; rw [← HCT.out, HK.out, HMM.out]; unfold wrongM; rw [if_neg (by decide), if_pos (.inr ha)]⟩
                      have HE : Aside0 (toks s.data.toList = ([], (q : Int), 12)) := ⟨by
                        rw [E.out, HR.out, HCT.out, run_bad c _ q ts.length HSP.out (by rw [HER.out]; decide), pre_bad, HER.out]; rfl⟩
                      go_wp2_with (first | (go_at_call 24; refine (small_any _ _).mono ?_; rintro e w' ⟨rfl, rfl⟩) | (go_at_call 25; refine (digit_any _ _).mono ?_; rintro e w' ⟨rfl, rfl⟩))
                      all_goals
                        go_ret3
                        refine ⟨⟨.slice none 0 0, ?_, ?_⟩, (below_alloc' HB.out (Nat.le_refl _) _)⟩
                        · rw [HE.out]; rfl
                        · rw [HE.out]; exact Kd.R_nil _ _ _ _ _
                    · by_cases h18 : (18 : Int) < (e : Int) - (q : Int)
                      · have HER : Aside0 (errAt (c :: (l.drop q).tail) ts.length = 11) := ⟨by unfold errAt; rw [← HCT.out, HK.out, HMM.out]; unfold wrongM; rw [if_neg (by decide), if_neg (by rintro (⟨h, _⟩ | h); (cases h); omega), if_pos ⟨rfl, .inl (by rw [HTL.out]; omega)⟩]⟩
                        have HE : Aside0 (toks s.data.toList = ([], (q : Int), 11)) := ⟨by
                          rw [E.out, HR.out, HCT.out, run_bad c _ q ts.length HSP.out (by rw [HER.out]; decide), pre_bad, HER.out]; rfl⟩
                        go_wp2_with (first | (go_at_call 24; refine (small_any _ _).mono ?_; rintro e w' ⟨rfl, rfl⟩) | (go_at_call 25; refine (digit_any _ _).mono ?_; rintro e w' ⟨rfl, rfl⟩))
                        all_goals
                          go_ret3
                          refine ⟨⟨.slice none 0 0, ?_, ?_⟩, (below_alloc' HB.out (Nat.le_refl _) _)⟩
                          · rw [HE.out]; rfl
                          · rw [HE.out]; exact Kd.R_nil _ _ _ _ _
                      · by_cases hone : (1 : Int) < (e : Int) - (q : Int)
                        · by_cases hz : ((s[q].toNat : Int) == 48) = true
                          · have hz2 : c = 48 := by rw [← HC.out]; have := beq_iff_eq.1 hz; exact UInt8.toNat_inj.1 (by have h48 : (48 : UInt8).toNat = 48 := rfl; omega)
                            have HZ2 := Aside0.mk hz2
                            clear hz2
                            have HER : Aside0 (errAt (c :: (l.drop q).tail) ts.length = 11) := ⟨by unfold errAt; rw [← HCT.out, HK.out, HMM.out]; unfold wrongM; rw [if_neg (by decide), if_neg (by rintro (⟨h, _⟩ | h); (cases h); omega), if_pos ⟨rfl, .inr ⟨by rw [HTL.out]; omega, by rw [HHD.out, HZ2.out]⟩⟩]⟩
                            have HE : Aside0 (toks s.data.toList = ([], (q : Int), 11)) := ⟨by
                              rw [E.out, HR.out, HCT.out, run_bad c _ q ts.length HSP.out (by rw [HER.out]; decide), pre_bad, HER.out]; rfl⟩
                            go_wp2_with (first | (go_at_call 24; refine (small_any _ _).mono ?_; rintro e w' ⟨rfl, rfl⟩) | (go_at_call 25; refine (digit_any _ _).mono ?_; rintro e w' ⟨rfl, rfl⟩))
                            all_goals
                              go_ret3
                              refine ⟨⟨.slice none 0 0, ?_, ?_⟩, (below_alloc' HB.out (Nat.le_refl _) _)⟩
                              · rw [HE.out]; rfl
                              · rw [HE.out]; exact Kd.R_nil _ _ _ _ _
                          · obtain hz : ((s[q].toNat : Int) == 48) = false := by simpa using hz
                            have hz2 : c ≠ 48 := by
                              intro h
                              rw [HC.out, h] at hz
                              cases hz
                            have HZ2 := Aside0.mk hz2
                            clear hz2
                            have HER : Aside0 (errAt (c :: (l.drop q).tail) ts.length = 0) := ⟨by unfold errAt; rw [← HCT.out, HK.out, HMM.out]; unfold wrongM; rw [if_neg (by decide), if_neg (by rintro (⟨h, _⟩ | h); (cases h); omega), if_neg (by rintro ⟨_, h | ⟨_, h⟩⟩; (rw [HTL.out] at h; omega); (rw [HHD.out] at h; exact HZ2.out (Option.some.inj h)))]⟩
                            have HRN : Aside0 (run l 0 0 = R.pre (ts ++ [⟨2, x, q⟩]) (run (l.drop (q + n)) (q + n) (ts ++ [(⟨2, x, q⟩ : S31)]).length)) := ⟨by
                              rw [HR.out, HCT.out, run_tok c _ q ts.length HSP.out HER.out, pre_snoc, ← HCT.out, HMM.out, List.drop_drop, List.length_append]
                              congr 3
                              unfold tokAt
                              rw [HK.out, HMM.out, HST.out]⟩
                            go_wp2_with (first | (go_at_call 24; refine (small_any _ _).mono ?_; rintro e w' ⟨rfl, rfl⟩) | (go_at_call 25; refine (digit_any _ _).mono ?_; rintro e w' ⟨rfl, rfl⟩) | (at_builtin; go_loud (refine Kd.R_append k31 w.heap.size rfl (.tmp 136) (.tmp 138) 24 31 _ 32 rfl Tryd.underlying24 info31 rfl (by decide) (by decide) (.slice A ts.length cc) ts ⟨2, x, q⟩ [.int .i64 2, .string x, .int .i64 q] (fun _ => True) (fun _ => False) rfl (by simp [Act.eval]) (k31_mkM _ _ _ ⟨2, x, q⟩) (fun _ h => h.elim) (fun _ _ => trivial) (Kd.R_alloc HV.out _) (below_alloc' HB.out (Nat.le_refl _) _) (by simp; omega) (by omega) ?_; intro v1 w1 hv1 hb1 hg1 hat1)))
                            have V6 := Aside0.mk (Kd.R_mono hv1 (fun _ _ => trivial))
                            have B6 := Aside0.mk hb1
                            clear hv1 hb1 hg1 hat1
                            go_wp2
                            go_roundw
                            case rel => exact ⟨e, by go_num, hes, ⟨ts ++ [⟨2, x, q⟩], by rw [HEE.out]; exact HRN.out, by simp; omega, V6.out, B6.out⟩⟩
                            case measure => simp [intOf]; omega
                        · have HER : Aside0 (errAt (c :: (l.drop q).tail) ts.length = 0) := ⟨by unfold errAt; rw [← HCT.out, HK.out, HMM.out]; unfold wrongM; rw [if_neg (by decide), if_neg (by rintro (⟨h, _⟩ | h); (cases h); omega), if_neg (by rintro ⟨_, h | ⟨h, _⟩⟩ <;> (rw [HTL.out] at h; omega))]⟩
                          have HRN : Aside0 (run l 0 0 = R.pre (ts ++ [⟨2, x, q⟩]) (run (l.drop (q + n)) (q + n) (ts ++ [(⟨2, x, q⟩ : S31)]).length)) := ⟨by
                            rw [HR.out, HCT.out, run_tok c _ q ts.length HSP.out HER.out, pre_snoc, ← HCT.out, HMM.out, List.drop_drop, List.length_append]
                            congr 3
                            unfold tokAt
                            rw [HK.out, HMM.out, HST.out]⟩
                          go_wp2_with (first | (go_at_call 24; refine (small_any _ _).mono ?_; rintro e w' ⟨rfl, rfl⟩) | (go_at_call 25; refine (digit_any _ _).mono ?_; rintro e w' ⟨rfl, rfl⟩) | (at_builtin; go_loud (refine Kd.R_append k31 w.heap.size rfl (.tmp 136) (.tmp 138) 24 31 _ 32 rfl Tryd.underlying24 info31 rfl (by decide) (by decide) (.slice A ts.length cc) ts ⟨2, x, q⟩ [.int .i64 2, .string x, .int .i64 q] (fun _ => True) (fun _ => False) rfl (by simp [Act.eval]) (k31_mkM _ _ _ ⟨2, x, q⟩) (fun _ h => h.elim) (fun _ _ => trivial) (Kd.R_alloc HV.out _) (below_alloc' HB.out (Nat.le_refl _) _) (by simp; omega) (by omega) ?_; intro v1 w1 hv1 hb1 hg1 hat1)))
                          have V6 := Aside0.mk (Kd.R_mono hv1 (fun _ _ => trivial))
                          have B6 := Aside0.mk hb1
                          clear hv1 hb1 hg1 hat1
                          go_wp2
                          go_roundw
                          case rel => exact ⟨e, by go_num, hes, ⟨ts ++ [⟨2, x, q⟩], by rw [HEE.out]; exact HRN.out, by simp; omega, V6.out, B6.out⟩⟩
                          case measure => simp [intOf]; omega
            · obtain hdig : isDig c = false := by simpa using hdig
              have HDIG := Aside0.mk hdig
              have hd2 : isDig s[q] = false := by rw [HC.out]; exact hdig
              clear hdig
              obtain ⟨hsg, hk3⟩ := sign_kind c (l.drop q).tail HLET.out HDIG.out
              rw [← HCT.out] at hsg hk3
              obtain ⟨n, hn⟩ : ∃ n, (cutM (l.drop q)).2 = n := ⟨_, rfl⟩
              rw [hn] at hsg hk3
              have HMM := Aside0.mk hn
              have hcl := cut_len c (l.drop q).tail
              rw [← HCT.out, hn] at hcl
              have hn2 : q + n ≤ s.size := by
                have h1 := congrArg List.length HCT.out
                rw [List.length_drop, HSL.out, List.length_cons] at h1
                omega
              have HSG := Aside0.mk hsg
              have HK3 := Aside0.mk hk3
              clear hsg hk3 hn hcl
              obtain ⟨e, hee⟩ : ∃ e, q + n = e := ⟨_, rfl⟩
              have HEE : Aside0 (e = q + n) := ⟨hee.symm⟩
              have hee2 : (q : Int) + (n : Int) = (e : Int) := by omega
              have hes : e ≤ s.size := by omega
              have hn0 : n = 0 ∨ 1 ≤ n := by omega
              clear hee
              have hx : (s.extract q e).data.toList = (l.drop q).take n := by rw [Lib.extract_data, HL.out]; congr 1; have := HEE.out; omega
              have HX := Aside0.mk hx
              clear hx
              have NA := Aside0.mk (blk_new wi (.cells #[.int .i64 0, .string ⟨#[]⟩, .int .i64 q] 31))
              have bA := Aside0.mk (below_alloc' HB.out (Nat.le_refl _) (.cells #[.int .i64 0, .string ⟨#[]⟩, .int .i64 q] 31))
              have VA := Aside0.mk (Kd.R_alloc (Kd.R_elderB HV.out wi.heap.size (Nat.le_refl _)) (.cells #[.int .i64 0, .string ⟨#[]⟩, .int .i64 q] 31))
              go_wp2_with (first | (go_at_call 24; refine (small_any _ _).mono ?_; rintro e w' ⟨rfl, rfl⟩) | (go_at_call 25; refine (digit_any _ _).mono ?_; rintro e w' ⟨rfl, rfl⟩))
              refine (sign_any s q _ hlt hs).mono ?_
              rintro e5 w5 ⟨rfl, d5⟩
              rw [HL.out, HSG.out]
              have b5 := d5.below
              clear d5
              have N5 := Aside0.mk (blk_below NA.out b5)
              have B5 := Aside0.mk (below_then bA.out bA.out.size b5)
              have V5 := Aside0.mk (Kd.R_below VA.out b5)
              have hz5 := b5.size
              simp at hz5
              clear b5
              have hwz : w.heap.size ≤ wi.heap.size := hsz
              have c0 : w5.cell? ⟨wi.heap.size, 0, none⟩ = some (.int .i64 0) := blk_cell N5.out 0
              have c1 : w5.cell? ⟨wi.heap.size, 1, none⟩ = some (.string ⟨#[]⟩) := blk_cell N5.out 1
              have c2 : w5.cell? ⟨wi.heap.size, 2, none⟩ = some (.int .i64 q) := blk_cell N5.out 2
              have f0 : w5.frozen? ⟨wi.heap.size, 0, none⟩ = false := blk_frozen N5.out _
              have f1 : w5.frozen? ⟨wi.heap.size, 1, none⟩ = false := blk_frozen N5.out _
              rcases hn0 with hn0 | hn1
              · have hqe2 : ((e : Int) == (q : Int)) = true := beq_iff_eq.2 (by omega)
                have HK : Aside0 ((cutM (l.drop q)).1 = 0) := ⟨by rw [HK3.out, if_pos hn0]⟩
                clear hn0
                have HER : Aside0 (errAt (c :: (l.drop q).tail) ts.length = 10) := ⟨by unfold errAt; rw [← HCT.out, HK.out]; rfl⟩
                have HE : Aside0 (toks s.data.toList = ([], (q : Int), 10)) := ⟨by
                  rw [E.out, HR.out, HCT.out, run_bad c _ q ts.length HSP.out (by rw [HER.out]; decide), pre_bad, HER.out]; rfl⟩
                go_wp2_with (first | (go_at_call 24; refine (small_any _ _).mono ?_; rintro e w' ⟨rfl, rfl⟩) | (go_at_call 25; refine (digit_any _ _).mono ?_; rintro e w' ⟨rfl, rfl⟩))
                all_goals
                  go_ret3
                  refine ⟨⟨.slice none 0 0, ?_, ?_⟩, (below_set B5.out hwz)⟩
                  · rw [HE.out]; rfl
                  · rw [HE.out]; exact Kd.R_nil _ _ _ _ _
              · have HK : Aside0 ((cutM (l.drop q)).1 = 3) := ⟨by rw [HK3.out, if_neg (by omega)]⟩
                have hqe : q < e := by omega
                obtain ⟨x, hxx⟩ : ∃ x, s.extract q e = x := ⟨_, rfl⟩
                have hx := HX.out
                rw [hxx] at hx
                have hst : x = str ((l.drop q).take n) := by rw [← hx, str_data]
                have HST := Aside0.mk hst
                have HX2 := Aside0.mk hx
                have HXX := Aside0.mk hxx
                clear hx hst
                have hqe2 : ((e : Int) == (q : Int)) = false := beq_eq_false_iff_ne.2 (by omega)
                have HTL : Aside0 (((l.drop q).take n).length = e - q) := ⟨by rw [List.length_take, List.length_drop, HSL.out]; have := HEE.out; omega⟩
                by_cases ha : 4096 ≤ ts.length
                · have HER : Aside0 (errAt (c :: (l.drop q).tail) ts.length = 12) := ⟨by unfold errAt; rw [← HCT.out, HK.out, HMM.out]; unfold wrongM; rw [if_neg (by decide), if_pos (.inr ha)]⟩
                  have HE : Aside0 (toks s.data.toList = ([], (q : Int), 12)) := ⟨by
                    rw [E.out, HR.out, HCT.out, run_bad c _ q ts.length HSP.out (by rw [HER.out]; decide), pre_bad, HER.out]; rfl⟩
                  go_wp2_with (first | (go_at_call 24; refine (small_any _ _).mono ?_; rintro e w' ⟨rfl, rfl⟩) | (go_at_call 25; refine (digit_any _ _).mono ?_; rintro e w' ⟨rfl, rfl⟩))
                  all_goals
                    go_ret3
                    refine ⟨⟨.slice none 0 0, ?_, ?_⟩, (below_set (below_set B5.out hwz) hwz)⟩
                    · rw [HE.out]; rfl
                    · rw [HE.out]; exact Kd.R_nil _ _ _ _ _
                · have HER : Aside0 (errAt (c :: (l.drop q).tail) ts.length = 0) := ⟨by unfold errAt; rw [← HCT.out, HK.out, HMM.out]; unfold wrongM; rw [if_neg (by decide), if_neg (by rintro (⟨h, _⟩ | h); (cases h); omega), if_neg (by rintro ⟨h, _⟩; cases h)]⟩
                  have HRN : Aside0 (run l 0 0 = R.pre (ts ++ [⟨3, x, q⟩]) (run (l.drop (q + n)) (q + n) (ts ++ [(⟨3, x, q⟩ : S31)]).length)) := ⟨by
                    rw [HR.out, HCT.out, run_tok c _ q ts.length HSP.out HER.out, pre_snoc, ← HCT.out, HMM.out, List.drop_drop, List.length_append]
                    congr 3
                    unfold tokAt
                    rw [HK.out, HMM.out, HST.out]⟩
                  go_wp2_with (first | (go_at_call 24; refine (small_any _ _).mono ?_; rintro e w' ⟨rfl, rfl⟩) | (go_at_call 25; refine (digit_any _ _).mono ?_; rintro e w' ⟨rfl, rfl⟩) | (at_builtin; go_loud (refine Kd.R_append k31 w.heap.size rfl (.tmp 136) (.tmp 138) 24 31 _ 32 rfl Tryd.underlying24 info31 rfl (by decide) (by decide) (.slice A ts.length cc) ts ⟨3, x, q⟩ [.int .i64 3, .string x, .int .i64 q] (fun k => True ∧ k ≠ wi.heap.size) (fun _ => False) rfl (by simp [Act.eval]) (k31_mkM _ _ _ ⟨3, x, q⟩) (fun _ h => h.elim) (fun k hk => ⟨trivial, by simp at hk; omega⟩) (Kd.R_far (Kd.R_far V5.out (p := ⟨wi.heap.size, 0, none⟩) (fun _ hk => hk.2) _) (p := ⟨wi.heap.size, 1, none⟩) (fun _ hk => hk.2) _) (below_set (below_set B5.out hwz) hwz) (by simp; omega) (by omega) ?_; intro v1 w1 hv1 hb1 hg1 hat1)))
                  have V6 := Aside0.mk (Kd.R_mono hv1 (fun _ _ => trivial))
                  have B6 := Aside0.mk hb1
                  clear hv1 hb1 hg1 hat1
                  go_wp2
                  go_roundw
                  case rel => exact ⟨e, by go_num, hes, ⟨ts ++ [⟨3, x, q⟩], by rw [HEE.out]; exact HRN.out, by simp; omega, V6.out, B6.out⟩⟩
                  case measure => simp [intOf]; omega
      · obtain ⟨ts, hR, hts, hV, hB⟩ := HR.out
        obtain ⟨A, cc, hv, hlc, _⟩ := Kd.R_reads hV
        subst hv
        have HV := Aside0.mk hV
        have HB := Aside0.mk hB
        have HE : Aside0 (toks s.data.toList = (ts, 0, 0)) := ⟨by
          rw [E.out, hR, List.drop_eq_nil_of_le (by rw [HSL.out]; omega), run_nil, pre_ok, List.append_nil]; rfl⟩
        clear hV hB hR HR
        go_wp2
        go_ret3
        refine ⟨⟨.slice A ts.length cc, ?_, ?_⟩, HB.out⟩
        · rw [HE.out]; rfl
        · rw [HE.out]; exact HV.out
end Go.Proofs.YthkndoglmajehaaDoor.Lex
