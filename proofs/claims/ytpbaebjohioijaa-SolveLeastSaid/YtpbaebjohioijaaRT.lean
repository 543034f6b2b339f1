import Derived.Test.YtpbaebjohioijaaRO
import Derived.Test.YtpbaebjohioijaaJ
import Derived.Test.YtpbaebjohioijaaOpen
namespace Go.Proofs.Ytpbaebjohioijaa.Lat
open Go.RowKit Go.Proofs.YtpbaebjohioijaaW.PrintWords Go.Proofs.YtpbaebjohioijaaW.PrintLast Go.Proofs.YtpbaebjohioijaaW.PrintMore Go.Proofs.Ytpbaebjohioijaa.PSolveLeast
set_option linter.unusedVariables false
set_option linter.unusedSimpArgs false

/-! ### The lattice of edges that are right -/
theorem lf_code {n : Int} {es : List (Int × Int)} (h : codeM n es = 0) : ∃ m : Nat, n = m ∧ 0 < m ∧ m ≤ 8 ∧ ∃ ys rk K, chainF m (closE m es).2 m 0 = some ys ∧ heightM m (closE m es).2 ys = ((K : Nat) : Int) ∧ LF m (closE m es).1 rk (K : Nat) ∧ (K : Int) ≤ 1000 := by
  obtain ⟨m, rfl, h0, hm, hb, hR⟩ := code_zero h
  obtain ⟨k1, k2⟩ := clos_Mk hm hb
  have hL := lat_clos hm hb hR
  obtain ⟨ys, rk, K, hy, hK, hF⟩ := lf_of hm h0 k1 k2 hL
  refine ⟨m, rfl, h0, hm, ys, rk, K, hy, hK, hF, ?_⟩
  have := (height_bd (ds := (closE m es).2) h0 (chainF_lt hy) (chainF_len hy)).2
  omega
/-! ### alive -/
def E2 : List (Int × Int) := [(0, 1)]
def C2 : List S43 := [⟨0, -1, 1⟩, ⟨1, 0, 0⟩]
theorem C_cons2 (W : World) (b : Nat) (hb : W.heap[b]? = some (.cells #[.int .i64 0, .int .i64 (-1), .int .i64 1, .int .i64 1, .int .i64 0, .int .i64 0] 43 (0, 0))) : Kd.C k43 W (some ⟨b, 0, none⟩) C2.length C2 := by
  refine ⟨rfl, by decide, fun _ => ⟨_, rfl, fun j q hj => ?_⟩⟩
  match j, hj with
  | 0, hj =>
    obtain rfl : (⟨0, -1, 1⟩ : S43) = q := by simpa [C2] using hj
    refine ⟨[.int .i64 0, .int .i64 (-1), .int .i64 1], rfl, k43_mk W ⟨0, -1, 1⟩, fun i u hi => ?_⟩
    show W.cell? ((⟨b, 0, none⟩ : Addr).add (0 * 3 + i)) = some u
    rw [add_plain, blk_cell hb]
    match i, hi with
    | 0, hi => exact hi
    | 1, hi => exact hi
    | 2, hi => exact hi
    | (i + 3), hi => simp at hi
  | 1, hj =>
    obtain rfl : (⟨1, 0, 0⟩ : S43) = q := by simpa [C2] using hj
    refine ⟨[.int .i64 1, .int .i64 0, .int .i64 0], rfl, k43_mk W ⟨1, 0, 0⟩, fun i u hi => ?_⟩
    show W.cell? ((⟨b, 0, none⟩ : Addr).add (1 * 3 + i)) = some u
    rw [add_plain, blk_cell hb]
    match i, hi with
    | 0, hi => exact hi
    | 1, hi => exact hi
    | 2, hi => exact hi
    | (i + 3), hi => simp at hi
  | (j + 2), hj => simp [C2] at hj
theorem three {xs : List Int} (h : xs.length = 3) : ∃ a b c, xs = [a, b, c] := by
  match xs, h with
  | [a, b, c], _ => exact ⟨a, b, c, rfl⟩
theorem vl2 {a : Int} (h : vl 2 a) : a = 0 ∨ a = 1 := by
  have := h.1
  have := h.2
  omega
/-- What Least answers to alive. -/
theorem alive_least {rk : Int → Int} {lv : List Int} {work : Int} (h : LeastP 2 (closE 2 E2).1 2 3 C2 lv work) : lv = [1, 1, 0] ∧ 2 ≤ work ∧ work ≤ 4 := by
  obtain ⟨⟨h1, h2, h3⟩, h4, h5, h6, h7⟩ := h
  obtain ⟨a, b, c, rfl⟩ := three h1
  have m10 : mostM 2 (closE 2 E2).1 1 0 = false := by decide +kernel
  have ha := h3 ⟨0, -1, 1⟩ (by simp [C2])
  have hb := h3 ⟨1, 0, 0⟩ (by simp [C2])
  have ha : mostM 2 (closE 2 E2).1 1 a = true := ha
  have hb : mostM 2 (closE 2 E2).1 a b = true := hb
  have hc := h4 [1, 1, 0] ⟨rfl, fun i hi => by
    match i, hi with
    | 0, _ => exact ⟨by decide, by decide⟩
    | 1, _ => exact ⟨by decide, by decide⟩
    | 2, _ => exact ⟨by decide, by decide⟩, fun d hd => by
    simp only [C2, List.mem_cons, List.not_mem_nil, or_false] at hd
    rcases hd with rfl | rfl
    · show mostM 2 (closE 2 E2).1 1 1 = true
      decide +kernel
    · show mostM 2 (closE 2 E2).1 1 1 = true
      decide +kernel⟩ 2 (by decide)
  have hc : mostM 2 (closE 2 E2).1 c 0 = true := hc
  have ea : a = 1 := by
    have v0 : vl 2 a := h2 0 (by decide)
    rcases vl2 v0 with e | e
    · rw [e, m10] at ha; cases ha
    · exact e
  have eb : b = 1 := by
    have v0 : vl 2 b := h2 1 (by decide)
    rcases vl2 v0 with e | e
    · rw [ea, e, m10] at hb; cases hb
    · exact e
  have ec : c = 0 := by
    have v0 : vl 2 c := h2 2 (by decide)
    rcases vl2 v0 with e | e
    · exact e
    · rw [e, m10] at hc; cases hc
  subst ea eb ec
  have e1 : ((C2.filter fun c => decide (c.f1 < 0)).length : Int) + Psi (allM 2 (closE 2 E2).1 []) 3 C2 [1, 1, 0] (List.replicate 3 false) = 2 := by decide +kernel
  have e2 : (C2.length : Int) * 2 = 4 := by decide
  exact ⟨rfl, by omega, by omega⟩
set_option maxHeartbeats 1000000 in
set_option maxRecDepth 100000 in
theorem alive7 (w : World) : Calls Try.prog 7 #[] w fun e w' => e = .returned (.bool true) ∧ Below w.heap.size w w' := by
  have K1 : Aside0 (codeM 2 E2 = 0) := ⟨by decide +kernel⟩
  have K2 : Aside0 (rightS 2 3 C2 = true) := ⟨by decide +kernel⟩
  have K3 : Aside0 (fitsM 2 (closE 2 E2).1 3 C2 [1, 1, 0] = true) := ⟨by decide +kernel⟩
  have K4 : Aside0 (fitsM 2 (closE 2 E2).1 3 C2 [1, 0, 0] = false) := ⟨by decide +kernel⟩
  have K5 : Aside0 (portcullisref00_SameInts.f 10 [1, 1, 0] [1, 1, 0] = some true) := ⟨by decide +kernel⟩
  have K6 : Aside0 (mostM 2 (closE 2 E2).1 1 0 = false) := ⟨by decide +kernel⟩
  have LFX : Aside0 (∃ rk, LF 2 (closE 2 E2).1 rk 2) := ⟨by
    obtain ⟨m, e, _, _, ys, rk, K, hy, hK, hF, _⟩ := lf_code K1.out
    have e : m = 2 := by omega
    subst e
    have hy2 : chainF 2 (closE 2 E2).2 2 0 = some [0, 1] := by decide +kernel
    rw [hy2] at hy
    injection hy with hy
    subst hy
    have hH : heightM 2 (closE 2 E2).2 [0, 1] = 2 := by decide +kernel
    rw [hH] at hK
    have e3 : ((K : Nat) : Int) = 2 := hK.symm
    rw [e3] at hF
    exact ⟨rk, hF⟩⟩
  have B1 := Aside0.mk (below_alloc (Below.refl w.heap.size w) (.cells (flatE E2).toArray 48))
  go_enter Try.func7, Try.ntmps7
  go_wp2_with fail
  refine (new_any 2 (some ⟨w.heap.size, 0, none⟩) 1 E2 (w.alloc (.cells (flatE E2).toArray 48)) (C_flat _ _ E2 (blk_new w _) (by decide)) (by decide)).mono ?_
  rintro e w2 ⟨b2, ⟨h, _⟩ | ⟨_, hb, ub, db, rfl, T⟩⟩
  · exact absurd K1.out h
  have B2 := Aside0.mk (below_then B1.out B1.out.size b2)
  have T2 : Aside0 (TO w2 hb ub db 2 (closE 2 E2).1 (closE 2 E2).2) := ⟨T⟩
  clear b2 T B1
  obtain ⟨w3, hw3⟩ : ∃ w3, w2.alloc (.cells #[.int .i64 0, .int .i64 (-1), .int .i64 1, .int .i64 1, .int .i64 0, .int .i64 0] 43) = w3 := ⟨_, rfl⟩
  have b3 : Below w2.heap.size w2 w3 := by rw [← hw3]; exact below_alloc (Below.refl _ _) _
  have N3 : Aside0 (w3.heap[w2.heap.size]? = some (.cells #[.int .i64 0, .int .i64 (-1), .int .i64 1, .int .i64 1, .int .i64 0, .int .i64 0] 43 (0, 0))) := ⟨by rw [← hw3]; exact blk_new w2 _⟩
  have B3 := Aside0.mk (below_then B2.out B2.out.size b3)
  have T3 := Aside0.mk (T2.out.below b3)
  clear b3
  obtain ⟨rk, hF⟩ := LFX.out
  have CL := Aside0.mk (least9 T3.out 3 (some ⟨w2.heap.size, 0, none⟩) 2 C2 (C_cons2 w3 _ N3.out) (by decide) hF (by omega))
  clear hF
  go_wp2_with fail
  refine CL.out.mono ?_
  rintro e w4 ⟨b4, ⟨h, _⟩ | ⟨_, lb, lv, work, rfl, hl, hP⟩⟩
  · rw [K2.out] at h; cases h
  obtain ⟨rfl, hw1, hw2⟩ := alive_least (rk := rk) hP
  have L4 := Aside0.mk hl
  have B4 := Aside0.mk (below_then B3.out B3.out.size b4)
  have T4 := Aside0.mk (T3.out.below b4)
  have N4 := Aside0.mk (blk_below N3.out b4)
  clear b4 hP hl CL hw3
  go_wp2_with fail
  obtain ⟨w5, hw5⟩ : ∃ w5, w4.alloc (.cells #[.int .i64 1, .int .i64 1, .int .i64 0] 3) = w5 := ⟨_, rfl⟩
  have b5 : Below w4.heap.size w4 w5 := by rw [← hw5]; exact below_alloc (Below.refl _ _) _
  have N5 : w5.heap[w4.heap.size]? = some (.cells (nums .i64 [1, 1, 0]).toArray 3 (0, 0)) := by rw [← hw5]; exact blk_new w4 _
  have B5 := Aside0.mk (below_then B4.out B4.out.size b5)
  have T5 := Aside0.mk (T4.out.below b5)
  have L5 := Aside0.mk (blk_below L4.out b5)
  have NC5 := Aside0.mk (blk_below N4.out b5)
  rw [hw5]
  refine (portcullisref00_SameInts.calls 10 (some ⟨lb, 0, none⟩) 3 [1, 1, 0] (some ⟨w4.heap.size, 0, none⟩) 3 [1, 1, 0] true w5 (C_ints w5 lb [1, 1, 0] L5.out (by decide)) (by decide) (C_ints w5 w4.heap.size [1, 1, 0] N5 (by decide)) (by decide) K5.out).mono ?_
  rintro e w6 ⟨rfl, d6⟩
  have b6 := d6.below
  have B6 := Aside0.mk (below_then B5.out B5.out.size b6)
  have T6 := Aside0.mk (T5.out.below b6)
  have L6 := Aside0.mk (blk_below L5.out b6)
  have NC6 := Aside0.mk (blk_below NC5.out b6)
  clear b5 b6 d6 N5 hw5
  go_wp2_with fail
  have f1 := fits11 T6.out 3 (some ⟨w2.heap.size, 0, none⟩) 2 C2 (C_cons2 w6 _ NC6.out) (by decide) (some ⟨lb, 0, none⟩) 3 [1, 1, 0] (C_ints w6 lb [1, 1, 0] L6.out (by decide)) (by decide)
  rw [K3.out] at f1
  refine f1.mono ?_
  rintro e w7 ⟨rfl, b7⟩
  have B7 := Aside0.mk (below_then B6.out B6.out.size b7)
  have T7 := Aside0.mk (T6.out.below b7)
  have L7 := Aside0.mk (blk_below L6.out b7)
  have NC7 := Aside0.mk (blk_below NC6.out b7)
  clear b7 f1
  go_wp2_with fail
  obtain ⟨w8, hw8⟩ : ∃ w8, w7.alloc (.cells #[.int .i64 1, .int .i64 0, .int .i64 0] 3) = w8 := ⟨_, rfl⟩
  have b8 : Below w7.heap.size w7 w8 := by rw [← hw8]; exact below_alloc (Below.refl _ _) _
  have N8 : w8.heap[w7.heap.size]? = some (.cells (nums .i64 [1, 0, 0]).toArray 3 (0, 0)) := by rw [← hw8]; exact blk_new w7 _
  have B8 := Aside0.mk (below_then B7.out B7.out.size b8)
  have T8 := Aside0.mk (T7.out.below b8)
  have L8 := Aside0.mk (blk_below L7.out b8)
  have f2 := fits11 T8.out 3 (some ⟨w2.heap.size, 0, none⟩) 2 C2 (C_cons2 w8 _ (blk_below NC7.out b8)) (by decide) (some ⟨w7.heap.size, 0, none⟩) 3 [1, 0, 0] (C_ints w8 _ [1, 0, 0] N8 (by decide)) (by decide)
  rw [K4.out] at f2
  rw [hw8]
  refine f2.mono ?_
  rintro e w9 ⟨rfl, b9⟩
  have B9 := Aside0.mk (below_then B8.out B8.out.size b9)
  have T9 := Aside0.mk (T8.out.below b9)
  have L9 := Aside0.mk (blk_below L8.out b9)
  clear b8 b9 f2 N8 hw8
  go_wp2_with fail
  obtain ⟨wa, hwa⟩ : ∃ wa, w9.alloc (.cells #[.int .i64 1, .int .i64 0, .int .i64 0, .string ⟨#[]⟩] 58) = wa := ⟨_, rfl⟩
  have ba : Below w9.heap.size w9 wa := by rw [← hwa]; exact below_alloc (Below.refl _ _) _
  have NA : wa.heap[w9.heap.size]? = some (.cells #[.int .i64 ((1 : Nat) : Int), .int .i64 0, .int .i64 0, .string ⟨#[]⟩] 58 (0, 0)) := by rw [← hwa]; exact blk_new w9 _
  have BA := Aside0.mk (below_then B9.out B9.out.size ba)
  have o1 := over19 (T9.out.below ba) 1 3 (by decide) (by decide) 0 1 0 ⟨#[]⟩ (by decide) (by decide) K6.out w9.heap.size NA lb 3 ((blk_cell (blk_below L9.out ba) 1).trans rfl)
  rw [hwa]
  refine o1.mono ?_
  rintro e wb ⟨⟨A, c', rfl⟩, bb⟩
  have BB := Aside0.mk (below_then BA.out BA.out.size bb)
  clear ba NA bb o1 hwa
  go_wp2_with fail
  go_ret
  exact ⟨rfl, BB.out⟩
end Go.Proofs.Ytpbaebjohioijaa.Lat
namespace Go.Proofs.Ytpbaebjohioijaa.Lat
open Go.RowKit Go.Proofs.YtpbaebjohioijaaW.PrintWords Go.Proofs.YtpbaebjohioijaaW.PrintLast Go.Proofs.YtpbaebjohioijaaW.PrintMore Go.Proofs.Ytpbaebjohioijaa.PSolveLeast
set_option linter.unusedVariables false
set_option linter.unusedSimpArgs false

theorem info43 : (Try.prog.info? 43).map (fun i => (i.zero, i.size, i.bytes)) = some (some (.agg #[.int .i64 0, .int .i64 0, .int .i64 0]), 3, 24) := by kernel_rfl
theorem copyCons10 (A : Option Addr) (c : Nat) (es : List S43) (w : World) (hr : Kd.C k43 w A es.length es) (hl : es.length ≤ 1000000) :
    Calls Try.prog 10 #[.slice A es.length c] w fun e w' => ∃ B cB, e = .returned (.slice B es.length cB) ∧ Kd.C k43 w' B es.length es ∧ Below w.heap.size w w' := by
  have HR := Aside0.mk hr
  clear hr
  go_enter Try.func10, Try.ntmps10
  go_wp2_with (at_builtin; refine Kd.R_append_rows k43 w.heap.size rfl (.tmp 5) (.tmp 6) 23 43 _ 24 rfl Try.underlying23 info43 rfl (by decide) (by decide) (.slice (some ⟨w.heap.size, 0, none⟩) 0 0) [] es A es.length c (fun _ => True) (fun _ => False) rfl rfl (lit_nil k43 43 w w.heap.size (Nat.le_refl _)) (Kd.C_below HR.out (below_alloc (Below.refl _ _) _)) (fun x cs h => by have e := k43_open h; subst e; exact k43_mkM _ _ _ x) (fun _ h => h.elim) (fun _ _ => trivial) (below_alloc (Below.refl _ _) _) (by simp) (by simp; omega) ?_; intro v1 w1 hv1 hb1 hg1 hat1)
  obtain ⟨B, cB, ev, _, hC⟩ := Kd.R_reads hv1
  rw [List.nil_append] at ev hC
  have HV := Aside0.mk hC
  have HB := Aside0.mk hb1
  subst ev
  clear hv1 hC hb1 hg1 hat1
  go_wp2
  go_ret
  exact ⟨B, cB, rfl, HV.out, HB.out⟩
def EB : List (Int × Int) := [(1, 0)]
theorem one_lv {rk : Int → Int} {m : Nat} {cs : List S43} {lv : List Int} {work : Int} (h : LeastP 1 (closE 1 []).1 1 m cs lv work) : lv.length = m ∧ (∀ i : Nat, i < m → rd lv i = 0) ∧ work ≤ cs.length := by
  obtain ⟨⟨h1, h2, h3⟩, h4, h5, h6, h7⟩ := h
  refine ⟨h1, fun i hi => ?_, by omega⟩
  have := h2 i hi
  have h8 := this.1
  have h9 := this.2
  omega
theorem two_lv {H : Int} {m : Nat} {lv : List Int} {work : Int} (h : LeastP 2 (closE 2 EB).1 H m [] lv work) : lv.length = m ∧ (∀ i : Nat, i < m → rd lv i = 1) ∧ work = 0 := by
  obtain ⟨⟨h1, h2, h3⟩, h4, h5, h6, h7⟩ := h
  have m01 : mostM 2 (closE 2 EB).1 0 1 = false := by decide +kernel
  have at1 : ∀ i : Nat, i < m → rd (List.replicate m 1) (i : Nat) = 1 := by
    intro i hi
    unfold rd
    rw [Int.toNat_natCast, List.getD_eq_getElem?_getD, List.getElem?_replicate, if_pos hi]
    rfl
  refine ⟨h1, fun i hi => ?_, ?_⟩
  · have hh := h4 (List.replicate m 1) ⟨List.length_replicate, fun j hj => by rw [at1 j hj]; exact ⟨by decide, by decide⟩, fun c hc => by cases hc⟩ i hi
    rw [at1 i hi] at hh
    rcases vl2 (h2 i hi) with e | e
    · rw [e, m01] at hh; cases hh
    · exact e
  · have : ((([] : List S43).length : Nat) : Int) * H = 0 := by simp
    omega
theorem right_nil (n : Nat) (m : Nat) (hm : m ≤ 524288) : rightS n (m : Int) [] = true := by
  unfold rightS
  simp
  omega
theorem lat_cell {w : World} {lb : Nat} {lv : List Int} (h : w.heap[lb]? = some (.cells (nums .i64 lv).toArray 3 (0, 0))) (i : Nat) (hi : i < lv.length) : w.cell? ⟨lb, i, none⟩ = some (.int .i64 (rd lv i)) := by
  rw [blk_cell h]
  simp [nums, rd, List.getD_eq_getElem?_getD, hi]
set_option maxHeartbeats 4000000 in
set_option maxRecDepth 100000 in
theorem one5 (nv : Int) (A : Option Addr) (c : Nat) (cs : List S43) (w : World) (hr : Kd.C k43 w A cs.length cs) : Calls Try.prog 5 #[.int .i64 nv, .slice A cs.length c] w fun e w' => e = .returned (.bool true) ∧ Below w.heap.size w w' := by
  have K1 : Aside0 (codeM 1 [] = 0) := ⟨by decide +kernel⟩
  have K2 : Aside0 (codeM 2 EB = 0) := ⟨by decide +kernel⟩
  have LF1 : Aside0 (∃ rk, LF 1 (closE 1 []).1 rk 1) := ⟨by
    obtain ⟨m, e, _, _, ys, rk, K, hy, hK, hF, _⟩ := lf_code K1.out
    have e : m = 1 := by omega
    subst e
    have hy2 : chainF 1 (closE 1 []).2 1 0 = some [0] := by decide +kernel
    rw [hy2] at hy
    injection hy with hy
    subst hy
    have hH : heightM 1 (closE 1 []).2 [0] = 1 := by decide +kernel
    rw [hH] at hK
    have e3 : ((K : Nat) : Int) = 1 := hK.symm
    rw [e3] at hF
    exact ⟨rk, hF⟩⟩
  have LF2 : Aside0 (∃ rk H, LF 2 (closE 2 EB).1 rk H ∧ H ≤ 1000) := ⟨by
    obtain ⟨m, e, _, _, ys, rk, K, hy, hK, hF, hb⟩ := lf_code K2.out
    have e : m = 2 := by omega
    subst e
    exact ⟨rk, _, hF, hb⟩⟩
  have HC := Aside0.mk hr
  have CA := Aside0.mk (alive7 w)
  clear hr
  go_enter Try.func5, Try.ntmps5
  go_wp2_with fail
  refine CA.out.mono ?_
  rintro e w1 ⟨rfl, b1⟩
  have B1 := Aside0.mk b1
  clear b1 CA
  by_cases h1 : 5000 < nv
  · go_wp2_with fail
    go_ret
    exact ⟨rfl, B1.out⟩
  by_cases h2 : (3000 : Int) < (cs.length : Int)
  · go_wp2_with fail
    go_ret
    exact ⟨rfl, B1.out⟩
  have hm : cs.length ≤ 1000000 := by omega
  go_wp2_with fail
  refine (new_any 1 none 0 [] w1 (Kd.C_nil _ _) (by decide)).mono ?_
  rintro e w2 ⟨b2, ⟨h, _⟩ | ⟨_, hb1, ub1, db1, rfl, T⟩⟩
  · exact absurd K1.out h
  have B2 := Aside0.mk (below_then B1.out B1.out.size b2)
  have T2 : Aside0 (TO w2 hb1 ub1 db1 1 (closE 1 []).1 (closE 1 []).2) := ⟨T⟩
  clear b2 T
  go_wp2_with fail
  obtain ⟨w3, hw3⟩ : ∃ w3, w2.alloc (.cells (flatE EB).toArray 48) = w3 := ⟨_, rfl⟩
  have b3 : Below w2.heap.size w2 w3 := by rw [← hw3]; exact below_alloc (Below.refl _ _) _
  have N3 : w3.heap[w2.heap.size]? = some (.cells (flatE EB).toArray 48 (0, 0)) := by rw [← hw3]; exact blk_new w2 _
  refine (new_any 2 (some ⟨w2.heap.size, 0, none⟩) 1 EB (w2.alloc (.cells (flatE EB).toArray 48)) (C_flat _ _ EB (blk_new w2 _) (by decide)) (by decide)).mono ?_
  rw [hw3]
  rintro e w4 ⟨b4, ⟨h, _⟩ | ⟨_, hb2, ub2, db2, rfl, T⟩⟩
  · exact absurd K2.out h
  have B4 := Aside0.mk (below_then B2.out B2.out.size (below_then b3 b3.size b4))
  have S4 : Aside0 (TO w4 hb1 ub1 db1 1 (closE 1 []).1 (closE 1 []).2) := ⟨(T2.out.below b3).below b4⟩
  have T4 : Aside0 (TO w4 hb2 ub2 db2 2 (closE 2 EB).1 (closE 2 EB).2) := ⟨T⟩
  have C4 := Aside0.mk (Kd.C_below HC.out B4.out)
  clear b3 b4 T N3 hw3 T2
  have CC := Aside0.mk (copyCons10 A c cs w4 C4.out hm)
  go_wp2_with fail
  refine CC.out.mono ?_
  rintro e w5 ⟨B, cB, rfl, hC5, b5⟩
  have B5 := Aside0.mk (below_then B4.out B4.out.size b5)
  have S5 := Aside0.mk (S4.out.below b5)
  have T5 := Aside0.mk (T4.out.below b5)
  obtain ⟨rk1, hF1⟩ := LF1.out
  have CL := Aside0.mk (least9 S5.out nv B cB cs hC5 hm hF1 (by omega))
  clear hC5 b5 CC hF1
  go_wp2_with fail
  refine CL.out.mono ?_
  rintro e w6 ⟨b6, hres⟩
  have B6 := Aside0.mk (below_then B5.out B5.out.size b6)
  have T6 := Aside0.mk (T5.out.below b6)
  clear b6 CL
  obtain ⟨rk2, H2, hF2, hH2⟩ := LF2.out
  have CL2 : Aside0 (∀ W, Aside0 (TO W hb2 ub2 db2 2 (closE 2 EB).1 (closE 2 EB).2) → Calls Try.prog 9 #[.pointer (some ⟨hb2, 0, none⟩), .int .i64 nv, .slice none 0 0] W fun e w' => Below W.heap.size W w' ∧ ((rightS 2 nv [] = false ∧ e = .returned (.tuple #[.slice none 0 0, .int .i64 0, .int .i64 72])) ∨
      (rightS 2 nv [] = true ∧ ∃ lb lv work, e = .returned (.tuple #[.slice (some ⟨lb, 0, none⟩) nv.toNat nv.toNat, .int .i64 work, .int .i64 0]) ∧ w'.heap[lb]? = some (.cells (nums .i64 lv).toArray 3 (0, 0)) ∧ LeastP 2 (closE 2 EB).1 H2 nv.toNat [] lv work))) := ⟨fun W hW => least9 hW.out nv none 0 [] (Kd.C_nil _ _) (by decide) hF2 hH2⟩
  clear hF2 hH2
  rcases hres with ⟨hr1, rfl⟩ | ⟨hr1, lb, lv, work, rfl, hl, hP⟩
  · have T6' : Aside0 (TO w6 hb2 ub2 db2 2 (closE 2 EB).1 (closE 2 EB).2) := T6
    go_wp2_with fail
    refine (CL2.out _ T6').mono ?_
    rintro e wx ⟨bx, hres2⟩
    have BX := Aside0.mk (below_then B6.out B6.out.size bx)
    clear bx
    rcases hres2 with ⟨hr2, rfl⟩ | ⟨hr2, lb2, lv2, work2, rfl, hl2, hP2⟩
    · have hneg : nv < 0 := by
        by_cases hh : nv < 0
        · exact hh
        · obtain ⟨m, rfl⟩ : ∃ m : Nat, nv = (m : Int) := ⟨nv.toNat, by omega⟩
          rw [right_nil 2 m (by omega)] at hr2
          cases hr2
      go_wp2_with fail
      go_ret
      exact ⟨rfl, BX.out⟩
    · obtain ⟨m, rfl⟩ : ∃ m : Nat, nv = (m : Int) := ⟨nv.toNat, by
        unfold rightS at hr2
        rw [Bool.and_eq_true, decide_eq_true_eq] at hr2
        omega⟩
      rw [Int.toNat_natCast] at hP2
      obtain ⟨hlen2, hone2, rfl⟩ := two_lv hP2
      have HL2 := Aside0.mk hl2
      have HO2 := Aside0.mk hone2
      have HE2 := Aside0.mk hlen2
      clear hP2 hl2 hone2 hlen2 hr2
      have etn : ((m : Int)).toNat = m := Int.toNat_natCast m
      go_wp2_with fail
      go_loopw [13] (fun i wr => ∃ k : Nat, i = .int .i64 k ∧ k ≤ m ∧ Aside0 (wr = wx)) (fun i _ => m - (intOf i).toNat)
      case atStart => exact ⟨0, rfl, Nat.zero_le _, ⟨rfl⟩⟩
      case round =>
        obtain ⟨k, rfl, hk, HW⟩ := hrel
        have hw := HW.out
        subst hw
        by_cases hlt : k < m
        · have c1 : wr.cell? ⟨lb2, k, none⟩ = some (.int .i64 1) := by rw [lat_cell HL2.out k (by rw [HE2.out]; exact hlt), HO2.out k hlt]
          go_wp2_with fail
          go_roundw
          case rel => exact ⟨k + 1, by go_num, hlt, ⟨trivial⟩⟩
          case measure => simp [intOf]; omega
        · have hke : k = m := by omega
          subst hke
          go_wp2_with fail
          go_ret
          exact ⟨rfl, BX.out⟩
  · obtain ⟨m0, hm0⟩ : ∃ m : Nat, nv = (m : Int) := ⟨nv.toNat, by
      unfold rightS at hr1
      rw [Bool.and_eq_true, decide_eq_true_eq] at hr1
      omega⟩
    have etn0 : nv.toNat = m0 := by omega
    rw [etn0] at hP
    obtain ⟨hlen, hzero, hwk⟩ := one_lv (rk := rk1) hP
    have HL := Aside0.mk hl
    have HO := Aside0.mk hzero
    have HE := Aside0.mk hlen
    have HM0 := Aside0.mk hm0
    clear hP hl hzero hlen hr1
    have hnn : (0 : Int) ≤ nv := by omega
    have hnm : (m0 : Int) = nv := hm0.symm
    clear hm0
    go_wp2_with fail
    go_loopw [11] (fun i wr => ∃ k : Nat, i = .int .i64 k ∧ k ≤ m0 ∧ Aside0 (wr = w6)) (fun i _ => m0 - (intOf i).toNat)
    case atStart => exact ⟨0, rfl, Nat.zero_le _, ⟨rfl⟩⟩
    case round =>
      obtain ⟨k, rfl, hk, HW⟩ := hrel
      have hw := HW.out
      subst hw
      by_cases hlt : k < m0
      · have c1 : wr.cell? ⟨lb, k, none⟩ = some (.int .i64 0) := by rw [lat_cell HL.out k (by rw [HE.out]; exact hlt), HO.out k hlt]
        go_wp2_with fail
        go_roundw
        case rel => exact ⟨k + 1, by go_num, hlt, ⟨trivial⟩⟩
        case measure => simp [intOf]; omega
      · have hke : k = m0 := by omega
        subst hke
        go_wp2_with fail
        refine (CL2.out _ T6).mono ?_
        rintro e wx ⟨bx, hres2⟩
        have BX := Aside0.mk (below_then B6.out B6.out.size bx)
        clear bx
        rcases hres2 with ⟨hr2, rfl⟩ | ⟨hr2, lb2, lv2, work2, rfl, hl2, hP2⟩
        · have hneg : nv < 0 := by
            by_cases hh : nv < 0
            · exact hh
            · obtain ⟨m, rfl⟩ : ∃ m : Nat, nv = (m : Int) := ⟨nv.toNat, by omega⟩
              rw [right_nil 2 m (by omega)] at hr2
              cases hr2
          go_wp2_with fail
          go_ret
          exact ⟨rfl, BX.out⟩
        · obtain ⟨m, rfl⟩ : ∃ m : Nat, nv = (m : Int) := ⟨nv.toNat, by
            unfold rightS at hr2
            rw [Bool.and_eq_true, decide_eq_true_eq] at hr2
            omega⟩
          rw [Int.toNat_natCast] at hP2
          obtain ⟨hlen2, hone2, rfl⟩ := two_lv hP2
          have HL2 := Aside0.mk hl2
          have HO2 := Aside0.mk hone2
          have HE2 := Aside0.mk hlen2
          clear hP2 hl2 hone2 hlen2 hr2
          have etn : ((m : Int)).toNat = m := Int.toNat_natCast m
          go_wp2_with fail
          go_loopw [13] (fun i wr => ∃ k : Nat, i = .int .i64 k ∧ k ≤ m ∧ Aside0 (wr = wx)) (fun i _ => m - (intOf i).toNat)
          case atStart => exact ⟨0, rfl, Nat.zero_le _, ⟨rfl⟩⟩
          case round =>
            obtain ⟨k, rfl, hk, HW⟩ := hrel
            have hw := HW.out
            subst hw
            by_cases hlt : k < m
            · have c1 : wr.cell? ⟨lb2, k, none⟩ = some (.int .i64 1) := by rw [lat_cell HL2.out k (by rw [HE2.out]; exact hlt), HO2.out k hlt]
              go_wp2_with fail
              go_roundw
              case rel => exact ⟨k + 1, by go_num, hlt, ⟨trivial⟩⟩
              case measure => simp [intOf]; omega
            · have hke : k = m := by omega
              subst hke
              go_wp2_with fail
              go_ret
              exact ⟨rfl, BX.out⟩
end Go.Proofs.Ytpbaebjohioijaa.Lat
namespace Go.Proofs.Ytpbaebjohioijaa.Lat
open Go.RowKit Go.Proofs.YtpbaebjohioijaaW.PrintWords Go.Proofs.YtpbaebjohioijaaW.PrintLast Go.Proofs.YtpbaebjohioijaaW.PrintMore Go.Proofs.Ytpbaebjohioijaa.PSolveLeast
set_option linter.unusedVariables false
/-! ### Parameters that are read -/
theorem o_int : Opens Try.prog 3 (Kd.int .i64) (fun n => (Lit.int .i64 n).wf = true) := opens_int Try.underlying3 (by kernel_rfl)
def G43 (x : S43) : Prop := (Lit.int .i64 x.f0).wf = true ∧ (Lit.int .i64 x.f1).wf = true ∧ (Lit.int .i64 x.f2).wf = true
theorem o_43 : Opens Try.prog 43 k43 G43 := by
  have h := opens_struct (fun x : S43 => (x.f0, x.f1, x.f2)) (fun y => ⟨y.1, y.2.1, y.2.2⟩) (fun _ => rfl) Try.underlying43 (by kernel_rfl) (OpensF.cons rfl o_int (OpensF.cons rfl o_int (OpensF.one rfl o_int)))
  exact h.imp (fun _ h => h)
theorem o_cons : Opens Try.prog 23 (Kd.slice 43 k43) (fun xs => ∀ x ∈ xs, G43 x) := opens_slice Try.underlying23 (by kernel_rfl) o_43
theorem one_law (nv : Int) (A : Option Addr) (c : Nat) (cs : List S43) (w : World) (hwf : (Lit.int .i64 nv).wf = true) (hr : Kd.C k43 w A cs.length cs) (hg : ∀ x ∈ cs, G43 x) : Calls Try.prog 5 #[.int .i64 nv, .slice A cs.length c] w fun e w' => e = .returned (.bool true) ∧ Below w.heap.size w w' := one5 nv A c cs w hr
end Go.Proofs.Ytpbaebjohioijaa.Lat
