import Derived.Test.YthkndoglmajehaaDoorS
namespace Go.Proofs.YthkndoglmajehaaDoor.Lex
open Go.RowKit Go.Proofs.YthkndoglmajehaaDoorW.PrintWords Go.Proofs.YthkndoglmajehaaDoorW.PrintLast Go.Proofs.YthkndoglmajehaaDoorW.PrintMore Go.Proofs.YthkndoglmajehaaDoor.PLexTokens
set_option linter.unusedVariables false
set_option linter.unusedSimpArgs false

/-- Bytes at block b that may be written. -/
structure BZ (w : World) (b : Nat) (l : List UInt8) : Prop where
  at_ : ∀ i (h : i < l.length), w.cell? ⟨b, i, none⟩ = some (.int .u8 (l[i].toNat : Int)) ∧ w.frozen? ⟨b, i, none⟩ = false
theorem BZ.new (W : World) (s : ByteArray) : BZ (Lib.bytesWorld W 5 s) W.heap.size s.data.toList := ⟨fun i h => by
  have hi : i < s.size := by rw [← size_list]; exact h
  refine ⟨?_, ?_⟩
  · rw [Lib.bytesWorld_cell W 5 s i hi, List.getD_eq_getElem?_getD, List.getElem?_eq_getElem h]
    rfl
  · have h1 := Lib.bytesWorld_at_new W 5 s
    have h2 : i < (Lib.bytesCells W 5 s).size := by
      unfold Lib.bytesCells
      rw [Array.size_append, Array.size_map]
      have : s.data.size = s.size := rfl
      omega
    simp [World.frozen?, h1]
    omega⟩
theorem BZ.put {w : World} {b : Nat} {l : List UInt8} (h : BZ w b l) (i : Nat) (hi : i < l.length) (c : UInt8) : BZ (w.setCell ⟨b, i, none⟩ (.int .u8 (c.toNat : Int))) b (l.set i c) := ⟨fun j hj => by
  rw [List.length_set] at hj
  obtain ⟨h1, h2⟩ := h.at_ j hj
  refine ⟨?_, by rw [World.frozen?_setCell]; exact h2⟩
  by_cases e : i = j
  · subst e
    refine (World.cell?_setCell_same _ _ _ h1).trans ?_
    simp
  · refine (World.cell?_setCell_other _ _ _ _ (by simp [e])).trans (h1.trans ?_)
    simp [e]⟩
theorem BZ.reads {w : World} {b : Nat} {l : List UInt8} (h : BZ w b l) (hl : l.length ≤ 1000000) : Kd.C (Kd.int .u8) w (some ⟨b, 0, none⟩) l.length (l.map fun b => (b.toNat : Int)) := by
  refine Kd.C_of_reads (d := (0 : Int)) (h1 := fun _ => rfl) ⟨List.length_map .., by omega, fun hn => ⟨_, rfl, fun j hj => ?_⟩⟩
  rw [add_plain, (h.at_ j hj).1]
  simp [hj]
theorem turn_take (l : List UInt8) (k : Nat) (h : k < l.length) : ((l.take k).map turnC ++ l.drop k).set k (turnC l[k]) = (l.take (k + 1)).map turnC ++ l.drop (k + 1) := by
  rw [List.drop_eq_getElem_cons h, List.set_append]
  have : ((l.take k).map turnC).length = k := by rw [List.length_map, List.length_take]; omega
  rw [if_neg (by omega), this, Nat.sub_self, List.set_cons_zero, List.take_succ_eq_append_getElem h, List.map_append, List.append_assoc]
  rfl
theorem turn_same (l : List UInt8) (k : Nat) (h : k < l.length) (e : turnC l[k] = l[k]) : (l.take k).map turnC ++ l.drop k = (l.take (k + 1)).map turnC ++ l.drop (k + 1) := by
  rw [List.take_succ_eq_append_getElem h, List.map_append, List.append_assoc, List.drop_eq_getElem_cons h]
  congr 1
  show l[k] :: _ = turnC l[k] :: _
  rw [e]
  rfl
theorem turn_at (l : List UInt8) (k : Nat) (h : k < l.length) : ((l.take k).map turnC ++ l.drop k)[k]'(by simp; omega) = l[k] := by
  rw [List.getElem_append_right (by simp; omega)]
  simp
  congr 1
  omega
/-- The relation of LexSpaces' loop. -/
structure SpRel (w0 wr : World) (b : Nat) (l : List UInt8) (k : Nat) : Prop where
  bz : BZ wr b ((l.take k).map turnC ++ l.drop k)
  bel : Below w0.heap.size w0 wr
  ge : w0.heap.size ≤ b
set_option maxHeartbeats 8000000 in
set_option maxRecDepth 100000 in
theorem lexSpaces_walk (s : ByteArray) (w : World) (hm : ML w) (hs : s.size ≤ 140737488351232) :
    Calls Tryd.prog 8 #[.string s] w fun e w' => e = .returned (.bool true) ∧ Below w.heap.size w w' := by
  have HM := Aside0.mk hm
  clear hm
  by_cases hbig : 20000 < s.size
  · go_enter Tryd.func8, Tryd.ntmps8
    go_wp2_with fail
    refine (alive _ HM.out).mono ?_
    rintro e w1 ⟨rfl, b1⟩
    go_wp2_with fail
    go_ret
    exact ⟨rfl, b1⟩
  · have hll := size_list s
    obtain ⟨l, hl⟩ : ∃ l, s.data.toList = l := ⟨_, rfl⟩
    rw [hl] at hll
    have HL := Aside0.mk hl
    have HLL := Aside0.mk hll
    clear hl hll
    have kb := fun W => print_bytes (P := Tryd.prog) 9 29 5 Tryd.underlying9 Tryd.underlying29 Tryd.underlying5 s W
    go_enter Tryd.func8, Tryd.ntmps8
    go_wp2_with fail
    refine (alive _ HM.out).mono ?_
    rintro e w1 ⟨rfl, b1⟩
    have B1 := Aside0.mk b1
    have HM1 := Aside0.mk (HM.out.next b1)
    clear b1
    go_wp2
    clear kb
    go_loopw [4] (fun i wr => ∃ k : Nat, i = .int .i64 k ∧ k ≤ s.size ∧ Aside0 (SpRel w1 wr w1.heap.size l k)) (fun i _ => s.size - (intOf i).toNat)
    case atStart => exact ⟨0, rfl, Nat.zero_le _, ⟨⟨by rw [List.take_zero, List.map_nil, List.nil_append, List.drop_zero, ← HL.out]; exact BZ.new w1 s, bytes_below (Below.refl _ _) (Nat.le_refl _) 5 s, Nat.le_refl _⟩⟩⟩
    case round =>
      obtain ⟨k, rfl, hk, HR⟩ := hrel
      obtain ⟨wi, rfl⟩ : ∃ wi : World, wi = wr := ⟨_, rfl⟩
      by_cases hlt : k < s.size
      · have hkl : k < l.length := by rw [HLL.out]; exact hlt
        obtain ⟨c0, f0⟩ := HR.out.bz.at_ k (by simp; omega)
        rw [turn_at l k hkl] at c0
        obtain ⟨c, hc⟩ : ∃ c : UInt8, l[k] = c := ⟨_, rfl⟩
        rw [hc] at c0
        have hts := turn_take l k hkl
        have htn := turn_same l k hkl
        rw [hc] at hts htn
        have HTS := Aside0.mk hts
        have HTN := Aside0.mk htn
        have hputs := fun d : UInt8 => HR.out.bz.put k (by simp; omega) d
        have HPT := Aside0.mk hputs
        clear hts htn hc hputs
        by_cases h1 : c = 32
        · subst h1
          have HN : Aside0 (SpRel w1 (wi.setCell ⟨w1.heap.size, k, none⟩ (.int .u8 10)) w1.heap.size l (k + 1)) := ⟨by rw [← HTS.out]; exact HPT.out 10, below_set HR.out.bel (Nat.le_refl _), Nat.le_refl _⟩
          have hd : (((32 : UInt8).toNat : Int) == 32) = true := rfl
          go_wp2
          go_roundw
          case rel => exact ⟨k + 1, by go_num, by omega, HN⟩
          case measure => simp [intOf]; omega
        · have hd : ((c.toNat : Int) == 32) = false := beq_eq_false_iff_ne.2 (fun h => h1 (UInt8.toNat_inj.1 (by have : (32 : UInt8).toNat = 32 := rfl; omega)))
          by_cases h2 : c = 10
          · subst h2
            have HN : Aside0 (SpRel w1 (wi.setCell ⟨w1.heap.size, k, none⟩ (.int .u8 32)) w1.heap.size l (k + 1)) := ⟨by rw [← HTS.out]; exact HPT.out 32, below_set HR.out.bel (Nat.le_refl _), Nat.le_refl _⟩
            have hd2 : (((10 : UInt8).toNat : Int) == 10) = true := rfl
            clear h1
            go_wp2
            go_roundw
            case rel => exact ⟨k + 1, by go_num, by omega, HN⟩
            case measure => simp [intOf]; omega
          · have hd2 : ((c.toNat : Int) == 10) = false := beq_eq_false_iff_ne.2 (fun h => h2 (UInt8.toNat_inj.1 (by have : (10 : UInt8).toNat = 10 := rfl; omega)))
            have HN : Aside0 (SpRel w1 wi w1.heap.size l (k + 1)) := ⟨by
              rw [← HTN.out (by unfold turnC; rw [if_neg h1, if_neg h2])]; exact HR.out.bz, HR.out.bel, Nat.le_refl _⟩
            clear h1 h2
            go_wp2
            go_roundw
            case rel => exact ⟨k + 1, by go_num, by omega, HN⟩
            case measure => simp [intOf]; omega
      · have hkk : k = s.size := by omega
        have hbz := HR.out.bz
        have hdr : (l.take k).map turnC ++ l.drop k = l.map turnC := by
          rw [hkk, List.take_of_length_le (by rw [HLL.out]; omega), List.drop_of_length_le (by rw [HLL.out]; omega), List.append_nil]
        rw [hdr] at hbz
        have hml : (l.map turnC).length = s.size := by rw [List.length_map, HLL.out]
        have hrd := hbz.reads (by omega)
        rw [hml] at hrd
        have HRD := Aside0.mk hrd
        have B2 := Aside0.mk (below_then B1.out B1.out.size HR.out.bel)
        have HM2 := Aside0.mk (HM1.out.next HR.out.bel)
        have hsn : strOfNums ((l.map turnC).map fun b => (b.toNat : Int)) = str (l.map turnC) := by
          unfold strOfNums str
          congr 2
          rw [List.map_map]
          exact (List.map_congr_left (fun x _ => by simp)).trans (List.map_id _)
        have HSN := Aside0.mk hsn
        have hzs : (str (l.map turnC)).size ≤ 1000000 := by
          show (l.map turnC).toArray.size ≤ 1000000
          rw [List.size_toArray, hml]
          omega
        obtain ⟨zs, hz⟩ : ∃ zs, str (l.map turnC) = zs := ⟨_, rfl⟩
        have hz2 : zs.data.toList = l.map turnC := by rw [← hz, data_str]
        rw [hz] at hzs HSN
        have HZ : Aside0 (toks zs.data.toList = toks l) := ⟨by rw [hz2, toks_turn]⟩
        have HZS := Aside0.mk hzs
        obtain ⟨r, hr⟩ : ∃ r, toks l = r := ⟨_, rfl⟩
        have hlen := toks_len l
        rw [hr, HLL.out] at hlen
        rw [hr] at HZ
        have HT := Aside0.mk hr
        obtain ⟨ts, p, er⟩ := r
        dsimp only at hlen
        clear hkk hbz hdr hml hrd hsn hzs hz hz2 hr HR
        go_wp2_with fail
        refine (tok_any s _ HM2.out (by omega)).mono ?_
        rintro e w3 ⟨A, c, rfl, _, hC, b3⟩
        rw [HL.out, HT.out] at hC ⊢
        have B3 := Aside0.mk (below_then B2.out B2.out.size b3)
        have HM3 := Aside0.mk (HM2.out.next b3)
        have HC3 := Aside0.mk hC
        have hcv := fun cc : Nat => Kd.C_string (P := Tryd.prog) (src := 29) (dst := 9) (c := cc) Tryd.underlying29 Tryd.underlying5 Tryd.underlying9 (Kd.C_below HRD.out b3)
        rw [HSN.out] at hcv
        clear b3 hC B2 HM2
        go_wp2_with fail
        refine (tok_any zs _ HM3.out HZS.out).mono ?_
        rintro e w4 ⟨A4, c4, rfl, _, hC4, b4⟩
        rw [HZ.out] at hC4 ⊢
        have B4 := Aside0.mk (below_then B3.out B3.out.size b4)
        have HC4 := Aside0.mk hC4
        have HD4 := Aside0.mk (Kd.C_below HC3.out b4)
        clear b4 hC4 hcv
        go_wp2_with fail
        refine (same_any A A4 c c4 ts _ HD4.out HC4.out (by omega)).mono ?_
        rintro e w5 ⟨rfl, b5⟩
        have B5 := Aside0.mk (below_then B4.out B4.out.size b5)
        clear b5
        go_wp2_with fail
        go_ret
        exact ⟨rfl, B5.out⟩
end Go.Proofs.YthkndoglmajehaaDoor.Lex
