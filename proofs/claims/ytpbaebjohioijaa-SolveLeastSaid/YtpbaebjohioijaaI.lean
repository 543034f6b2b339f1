import Derived.Test.YtpbaebjohioijaaH
import Derived.Deep.DeepCutAuto
import Derived.Deep.RegionWith
namespace Go.Proofs.Ytpbaebjohioijaa.Lat
open Go.RowKit Go.Proofs.YtpbaebjohioijaaW.PrintWords Go.Proofs.YtpbaebjohioijaaW.PrintLast Go.Proofs.YtpbaebjohioijaaW.PrintMore Go.Proofs.Ytpbaebjohioijaa.PSolveLeast
set_option linter.unusedVariables false
set_option linter.unusedSimpArgs false

/-! ### New -/
def orr (a b : Int) : Int := Go.bits .or .u64 a b
def stepE (s : List Int × List Int) (e : Int × Int) : List Int × List Int := (s.1.set e.1.toNat (orr (rd s.1 e.1) (rd s.1 e.2)), s.2.set e.2.toNat (orr (rd s.2 e.2) (rd s.2 e.1)))
def roundE (es : List (Int × Int)) (s : List Int × List Int) : List Int × List Int := es.foldl stepE s
def iterE (es : List (Int × Int)) : Nat → List Int × List Int → List Int × List Int
  | 0, s => s
  | k + 1, s => roundE es (iterE es k s)
def initP (n k : Nat) : List Int := (List.range k).map (fun i => (2 : Int) ^ i) ++ List.replicate (n - k) 0
def closE (n : Nat) (es : List (Int × Int)) : List Int × List Int := iterE es n (initP n n, initP n n)
def codeM (n : Int) (es : List (Int × Int)) : Int := if n < 1 ∨ 8 < n then 22 else if badE n es then 30 else if rightb n.toNat (closE n.toNat es).1 (closE n.toNat es).2 then 0 else 31
theorem initP_set {n k : Nat} (h : k < n) : (initP n k).set k (2 ^ k) = initP n (k + 1) := by
  unfold initP
  rw [List.set_append_right _ _ (by simp)]
  rw [List.length_map, List.length_range, Nat.sub_self, List.range_succ, List.map_append, List.append_assoc]
  congr 1
  obtain ⟨m, hm⟩ : ∃ m, n - k = m + 1 := ⟨n - k - 1, by omega⟩
  rw [hm, show n - (k + 1) = m from by omega]
  rfl
theorem initP_len (n k : Nat) (h : k ≤ n) : (initP n k).length = n := by simp [initP]; omega

/-- New's world: the order so far, and the box of n. -/
structure NR (w wr : World) (hb ub db nb n : Nat) (us ds : List Int) : Prop where
  ord : TO wr hb ub db n us ds
  bel : Below w.heap.size w wr
  nbk : wr.heap[nb]? = some (.cells #[.int .i64 n] 3 (0, 0))
  ub1 : w.heap.size ≤ ub
  db1 : w.heap.size ≤ db
theorem RB.made (w : World) (n : Nat) : (w.alloc (.cells (madeCells #[Value.int .u64 0] n) 78)).heap[w.heap.size]? = some (.cells (nums .u64 (initP n 0)).toArray 78 (0, 0)) := by
  rw [blk_new]
  congr 2
  apply Array.ext'
  apply List.ext_getElem
  · simp [nums, madeCells, initP]
  · intro i h1 h2
    simp [nums, madeCells, Nat.mod_one, initP]
theorem info78 : (Try.prog.info? 78).map (fun i => (i.zero, i.size, i.bytes)) = some (some (.int .u64 0), 1, 8) := by kernel_rfl
section
variable {w wr : World} {hb ub db nb n : Nat} {us ds : List Int}
theorem NR.setU (h : NR w wr hb ub db nb n us ds) (i : Nat) (v : Int) : NR w (wr.setCell ⟨ub, i, none⟩ (.int .u64 v)) hb ub db nb n (us.set i v) ds :=
  ⟨⟨blk_far h.ord.hbk (p := ⟨ub, i, none⟩) h.ord.hu _, h.ord.u.put i v, h.ord.d.far (p := ⟨ub, i, none⟩) (Ne.symm h.ord.ne) _, h.ord.ne, h.ord.le8⟩, below_set h.bel h.ub1, blk_far h.nbk (p := ⟨ub, i, none⟩) (blk_ne h.nbk h.ord.u.bk (by decide)) _, h.ub1, h.db1⟩
theorem NR.setD (h : NR w wr hb ub db nb n us ds) (i : Nat) (v : Int) : NR w (wr.setCell ⟨db, i, none⟩ (.int .u64 v)) hb ub db nb n us (ds.set i v) :=
  ⟨⟨blk_far h.ord.hbk (p := ⟨db, i, none⟩) h.ord.hd _, h.ord.u.far (p := ⟨db, i, none⟩) h.ord.ne _, h.ord.d.put i v, h.ord.ne, h.ord.le8⟩, below_set h.bel h.db1, blk_far h.nbk (p := ⟨db, i, none⟩) (blk_ne h.nbk h.ord.d.bk (by decide)) _, h.ub1, h.db1⟩
theorem NR.drew (h : NR w wr hb ub db nb n us ds) : NR w wr.drew hb ub db nb n us ds := ⟨h.ord.below (below_drew (Below.refl _ _)), below_drew h.bel, h.nbk, h.ub1, h.db1⟩
theorem NR.drewN (h : NR w wr hb ub db nb n us ds) (q : Nat) : NR w (wr.drewN q) hb ub db nb n us ds := ⟨h.ord.below (pw_below_drewN (Below.refl _ _) q), pw_below_drewN h.bel q, h.nbk, h.ub1, h.db1⟩
theorem NR.alloc (h : NR w wr hb ub db nb n us ds) (o : Obj) : NR w (wr.alloc o) hb ub db nb n us ds := ⟨h.ord.below (below_alloc (Below.refl _ _) o), below_alloc h.bel o, blk_alloc h.nbk o, h.ub1, h.db1⟩
end
theorem NR.made (w w2 : World) (nb m : Nat) (hm : m ≤ 8) (hB : Below w.heap.size w w2) (hn : w2.heap[nb]? = some (.cells #[.int .i64 m] 3 (0, 0))) (ub db : Nat) (h : (ub = w2.heap.size ∧ db = w2.heap.size + 1) ∨ (ub = w2.heap.size + 1 ∧ db = w2.heap.size)) :
    NR w (((w2.alloc (.cells (madeCells #[Value.int .u64 0] m) 78)).alloc (.cells (madeCells #[Value.int .u64 0] m) 78)).alloc (.cells #[.slice (some ⟨ub, 0, none⟩) m m, .slice (some ⟨db, 0, none⟩) m m] 81)) (w2.heap.size + 1 + 1) ub db nb m (initP m 0) (initP m 0) := by
  have a1 := blk_alloc (blk_alloc (RB.made w2 m) (.cells (madeCells #[Value.int .u64 0] m) 78)) (.cells #[.slice (some ⟨ub, 0, none⟩) m m, .slice (some ⟨db, 0, none⟩) m m] 81)
  have a2 := blk_alloc (RB.made (w2.alloc (.cells (madeCells #[Value.int .u64 0] m) 78)) m) (.cells #[.slice (some ⟨ub, 0, none⟩) m m, .slice (some ⟨db, 0, none⟩) m m] 81)
  have a3 := blk_new ((w2.alloc (.cells (madeCells #[Value.int .u64 0] m) 78)).alloc (.cells (madeCells #[Value.int .u64 0] m) 78)) (.cells #[.slice (some ⟨ub, 0, none⟩) m m, .slice (some ⟨db, 0, none⟩) m m] 81)
  have s1 : (w2.alloc (.cells (madeCells #[Value.int .u64 0] m) 78)).heap.size = w2.heap.size + 1 := by simp
  have s2 : ((w2.alloc (.cells (madeCells #[Value.int .u64 0] m) 78)).alloc (.cells (madeCells #[Value.int .u64 0] m) 78)).heap.size = w2.heap.size + 1 + 1 := by simp
  rw [s1] at a2
  rw [s2] at a3
  have l := initP_len m 0 (Nat.zero_le _)
  have hs := hB.size
  refine ⟨⟨a3, ?_, ?_, by omega, hm⟩, below_alloc (below_alloc (below_alloc hB _) _) _, blk_alloc (blk_alloc (blk_alloc hn _) _) _, by omega, by omega⟩
  · rcases h with ⟨rfl, rfl⟩ | ⟨rfl, rfl⟩
    · exact ⟨a1, l⟩
    · exact ⟨a2, l⟩
  · rcases h with ⟨rfl, rfl⟩ | ⟨rfl, rfl⟩
    · exact ⟨a2, l⟩
    · exact ⟨a1, l⟩
theorem fold_takeE {α : Type} (f : α → Int × Int → α) (a : α) (es : List (Int × Int)) (k : Nat) (h : k < es.length) : (es.take (k + 1)).foldl f a = f ((es.take k).foldl f a) (rdE es k) := by
  rw [List.take_add_one, List.foldl_append]
  simp [rdE, List.getD_eq_getElem?_getD, List.getElem?_eq_getElem h]
theorem good_of {n : Int} {es : List (Int × Int)} (h : badE n es = false) {q : Nat} (hq : q < es.length) : (0 ≤ (rdE es q).1 ∧ (rdE es q).1 < n) ∧ 0 ≤ (rdE es q).2 ∧ (rdE es q).2 < n := by
  rw [badE, List.any_eq_false] at h
  have := h (rdE es q) (by
    rw [rdE, List.getD_eq_getElem?_getD, List.getElem?_eq_getElem hq]
    exact List.getElem_mem hq)
  simpa [badB, lev] using this
set_option maxHeartbeats 2000000 in
set_option maxRecDepth 100000 in
theorem new_any (n : Int) (A : Option Addr) (c : Nat) (es : List (Int × Int)) (w : World) (hr : Kd.C KE w A es.length es) (hl : es.length ≤ 1000000) :
    Calls Try.prog 15 #[.int .i64 n, .slice A es.length c] w fun e w' => Below w.heap.size w w' ∧
      ((codeM n es ≠ 0 ∧ e = .returned (.tuple #[.pointer none, .int .i64 (codeM n es)])) ∨
        (codeM n es = 0 ∧ ∃ hb ub db, e = .returned (.tuple #[.pointer (some ⟨hb, 0, none⟩), .int .i64 0]) ∧ TO w' hb ub db n.toNat (closE n.toNat es).1 (closE n.toNat es).2)) := by
  have HR := Aside0.mk hr
  clear hr
  have B1 := Aside0.mk (below_alloc (Below.refl w.heap.size w) (.cells #[.int .i64 n] 3))
  have cn : (w.alloc (.cells #[.int .i64 n] 3)).cell? ⟨w.heap.size, 0, none⟩ = some (.int .i64 n) := (blk_cell (blk_new w _) 0).trans rfl
  by_cases h1 : n < 1
  · have E : Aside0 (codeM n es = 22) := ⟨by rw [codeM, if_pos (.inl h1)]⟩
    go_enter Try.func15, Try.ntmps15
    go_wp2
    go_ret2
    exact ⟨B1.out, .inl ⟨by rw [E.out]; decide, by rw [E.out]; rfl⟩⟩
  by_cases h2 : 8 < n
  · have E : Aside0 (codeM n es = 22) := ⟨by rw [codeM, if_pos (.inr h2)]⟩
    go_enter Try.func15, Try.ntmps15
    go_wp2
    go_ret2
    exact ⟨B1.out, .inl ⟨by rw [E.out]; decide, by rw [E.out]; rfl⟩⟩
  have HC := Aside0.mk (contains_any n w.heap.size A c es _ (blk_new w (.cells #[.int .i64 n] 3)) (Kd.C_below HR.out B1.out) hl)
  by_cases hb : badE n es = true
  · have E : Aside0 (codeM n es = 30) := ⟨by rw [codeM, if_neg (by omega), if_pos hb]⟩
    rw [hb] at HC
    clear hb
    go_enter Try.func15, Try.ntmps15
    go_wp2_with fail
    refine HC.out.mono ?_
    rintro e w2 ⟨rfl, b2⟩
    have B2 := Aside0.mk (below_then B1.out B1.out.size b2)
    clear b2
    go_wp2_with fail
    go_ret2
    exact ⟨B2.out, .inl ⟨by rw [E.out]; decide, by rw [E.out]; rfl⟩⟩
  obtain hb : badE n es = false := by simpa using hb
  have HBAD := Aside0.mk hb
  rw [hb] at HC
  obtain ⟨m, rfl⟩ := Int.eq_ofNat_of_zero_le (show 0 ≤ n by omega)
  have hk := print_make (P := Try.prog) 79 78 .u64 8 Try.underlying79 info78 (by decide) m (by omega)
  clear hb
  go_enter Try.func15, Try.ntmps15
  go_wp2_with fail
  refine HC.out.mono ?_
  rintro e w2 ⟨rfl, b2⟩
  have B2 := Aside0.mk (below_then B1.out B1.out.size b2)
  have N2 := Aside0.mk (blk_below (blk_new w (.cells #[.int .i64 m] 3)) b2)
  have c2 : w2.cell? ⟨w.heap.size, 0, none⟩ = some (.int .i64 m) := (blk_cell N2.out 0).trans rfl
  have cA : (w2.alloc (.cells (madeCells #[Value.int .u64 0] m) 78)).cell? ⟨w.heap.size, 0, none⟩ = some (.int .i64 m) := (blk_cell (blk_alloc N2.out _) 0).trans rfl
  have cB : ((w2.alloc (.cells (madeCells #[Value.int .u64 0] m) 78)).alloc (.cells (madeCells #[Value.int .u64 0] m) 78)).cell? ⟨w.heap.size, 0, none⟩ = some (.int .i64 m) := (blk_cell (blk_alloc (blk_alloc N2.out _) _) 0).trans rfl
  clear b2 cn HC
  go_upto_region 5 with fail
  go_cut [6] (fun a wx => ∃ hb ub db, a = .pointer (some ⟨hb, 0, none⟩) ∧ Aside0 (NR w wx hb ub db w.heap.size m (initP m 0) (initP m 0)))
  case first =>
    go_region
    all_goals (
      go_wp2_with fail
      go_meet
      case rel =>
        first
        | exact ⟨_, _, _, rfl, ⟨(NR.made w w2 w.heap.size m (by omega) B2.out N2.out w2.heap.size (w2.heap.size + 1) (.inl ⟨rfl, rfl⟩)).drew⟩⟩
        | exact ⟨_, _, _, rfl, ⟨(NR.made w w2 w.heap.size m (by omega) B2.out N2.out (w2.heap.size + 1) w2.heap.size (.inr ⟨rfl, rfl⟩)).drew⟩⟩)
  case rest =>
    obtain ⟨ob, ub, db, rfl, Z⟩ := hcut
    clear c2 cA cB N2 B2 hk
    have nc : wc.cell? ⟨w.heap.size, 0, none⟩ = some (.int .i64 m) := (blk_cell Z.out.nbk 0).trans rfl
    go_wp2_with fail
    clear nc
    go_loopw [26] (fun i wr => ∃ k : Nat, i = .int .i64 k ∧ k ≤ m ∧ Aside0 (NR w wr ob ub db w.heap.size m (initP m k) (initP m k))) (fun i _ => m - (intOf i).toNat)
    case atStart => exact ⟨0, rfl, Nat.zero_le _, Z⟩
    case round =>
      clear Z
      obtain ⟨k, rfl, hk, Z⟩ := hrel
      obtain ⟨wo, rfl⟩ : ∃ wo : World, wo = wr := ⟨_, rfl⟩
      by_cases hlt : k < m
      · have H33 : Aside0 (∀ W, Calls Try.prog 37 #[.int .i64 k] W fun e w' => e = .returned (.int .u64 (2 ^ k)) ∧ W = w') := ⟨fun W => one_any k (by omega) (by omega) W⟩
        have HS := Aside0.mk (initP_set hlt)
        obtain ⟨x, hx⟩ : ∃ x : Int, 2 ^ k = x := ⟨_, rfl⟩
        rw [hx] at H33 HS
        clear hx
        have k0 := Z.out.ord.c0
        have k1 := Z.out.ord.c1
        obtain ⟨q0, q1⟩ := Z.out.ord.u.at_ k hlt
        obtain ⟨q2, q3⟩ := Z.out.ord.d.at_ k hlt
        have ne1 := Z.out.ord.ne
        have ne2 := Ne.symm ne1
        have ne3 := Z.out.ord.hu
        have ne4 := Z.out.ord.hd
        have Z2 := Aside0.mk (((Z.out.setU k x).setD k x).drew)
        rw [HS.out] at Z2
        go_upto_region 9 with fail
        go_region_with (go_at_call 37; refine (H33.out _).mono ?_; rintro e w' ⟨rfl, rfl⟩)
        all_goals (
          clear H33 HS k0 k1 q0 q1 q2 q3 ne1 ne2 ne3 ne4 Z
          go_wp2_with fail
          go_roundw
          case rel => exact ⟨k + 1, by go_num, by omega, Z2⟩
          case measure => simp [intOf]; omega)
      · have hkm : k = m := by omega
        subst hkm
        have nc : wo.cell? ⟨w.heap.size, 0, none⟩ = some (.int .i64 k) := (blk_cell Z.out.nbk 0).trans rfl
        go_wp2_with fail
        clear nc
        go_loopw [47] (fun i wr => ∃ r : Nat, i = .int .i64 r ∧ r ≤ k ∧ Aside0 (NR w wr ob ub db w.heap.size k (iterE es r (initP k k, initP k k)).1 (iterE es r (initP k k, initP k k)).2)) (fun i _ => k - (intOf i).toNat)
        case atStart => exact ⟨0, rfl, Nat.zero_le _, Z⟩
        case round =>
          clear Z
          obtain ⟨r, rfl, hr, Z⟩ := hrel
          obtain ⟨wo, rfl⟩ : ∃ wo : World, wo = wr := ⟨_, rfl⟩
          by_cases hrk : r < k
          · have HNX : Aside0 (iterE es (r + 1) (initP k k, initP k k) = roundE es (iterE es r (initP k k, initP k k))) := ⟨rfl⟩
            obtain ⟨s0, hs0⟩ : ∃ s, iterE es r (initP k k, initP k k) = s := ⟨_, rfl⟩
            rw [hs0] at Z HNX
            clear hs0
            go_wp2_with fail
            go_loopw [51] (fun i wr => ∃ q : Nat, i = .int .i64 q ∧ q ≤ es.length ∧ Aside0 (NR w wr ob ub db w.heap.size k ((es.take q).foldl stepE s0).1 ((es.take q).foldl stepE s0).2)) (fun i _ => es.length - (intOf i).toNat)
            case atStart => exact ⟨0, rfl, Nat.zero_le _, Z⟩
            case round =>
              clear Z
              obtain ⟨q, rfl, hq, Z⟩ := hrel
              obtain ⟨wi, rfl⟩ : ∃ wi : World, wi = wr := ⟨_, rfl⟩
              by_cases hqe : q < es.length
              · have HFS := Aside0.mk (fold_takeE stepE s0 es q hqe)
                obtain ⟨⟨g1, g2⟩, g3, g4⟩ := good_of HBAD.out hqe
                obtain ⟨ad, eA, e0, e1⟩ := at_E (Kd.C_below HR.out Z.out.bel) q hqe
                subst eA
                obtain ⟨s, hs⟩ : ∃ s, (es.take q).foldl stepE s0 = s := ⟨_, rfl⟩
                rw [hs] at Z HFS
                clear hs
                have HV : Aside0 (stepE s (rdE es q) = (s.1.set (rdE es q).1.toNat (orr (rd s.1 (rdE es q).1) (rd s.1 (rdE es q).2)), s.2.set (rdE es q).2.toNat (orr (rd s.2 (rdE es q).2) (rd s.2 (rdE es q).1)))) := ⟨rfl⟩
                obtain ⟨a, ha⟩ : ∃ a, (rdE es q).1 = a := ⟨_, rfl⟩
                obtain ⟨b, hb2⟩ : ∃ a, (rdE es q).2 = a := ⟨_, rfl⟩
                rw [ha] at g1 g2 e0
                rw [hb2] at g3 g4 e1
                rw [ha, hb2] at HV
                clear ha hb2
                obtain ⟨a, rfl⟩ := Int.eq_ofNat_of_zero_le g1
                obtain ⟨b, rfl⟩ := Int.eq_ofNat_of_zero_le g3
                rw [Int.toNat_natCast, Int.toNat_natCast] at HV
                have ha : a < k := by omega
                have hb3 : b < k := by omega
                clear g1 g2 g3 g4
                have Z1 := Aside0.mk (Z.out.alloc (.cells #[.int .i64 a, .int .i64 b] 48))
                have EB := Aside0.mk (blk_new wi (.cells #[.int .i64 a, .int .i64 b] 48))
                obtain ⟨we, hwe⟩ : ∃ we, wi.alloc (.cells #[.int .i64 a, .int .i64 b] 48) = we := ⟨_, rfl⟩
                obtain ⟨eb, heb⟩ : ∃ eb, wi.heap.size = eb := ⟨_, rfl⟩
                rw [hwe, heb] at EB
                rw [hwe] at Z1
                go_upto_region 16 with fail
                clear hwe heb e0 e1
                have k0 := Z1.out.ord.c0
                have f0 : we.cell? ⟨eb, 0, none⟩ = some (.int .i64 a) := (blk_cell EB.out 0).trans rfl
                have f1 : we.cell? ⟨eb, 1, none⟩ = some (.int .i64 b) := (blk_cell EB.out 1).trans rfl
                obtain ⟨q0, q1⟩ := Z1.out.ord.u.at_ a ha
                obtain ⟨q2, q3⟩ := Z1.out.ord.u.at_ b hb3
                have Z2 := Aside0.mk (Z1.out.setU a (orr (rd s.1 a) (rd s.1 b))).drew
                have NE := Aside0.mk (blk_ne EB.out Z1.out.ord.u.bk (by decide))
                have EB2 : Aside0 ((we.setCell ⟨ub, a, none⟩ (.int .u64 (orr (rd s.1 a) (rd s.1 b)))).drew.heap[eb]? = some (.cells #[.int .i64 a, .int .i64 b] 48 (0, 0))) := ⟨blk_far EB.out (p := ⟨ub, a, none⟩) NE.out _⟩
                have HV2 : Aside0 (stepE s (rdE es q) = (s.1.set a (orr (rd s.1 a) (rd s.1 b)), s.2.set b (orr (rd s.2 b) (rd s.2 a)))) := HV
                obtain ⟨x, hx⟩ : ∃ x, rd s.1 a = x := ⟨_, rfl⟩
                obtain ⟨y, hy⟩ : ∃ x, rd s.1 b = x := ⟨_, rfl⟩
                rw [hx, hy] at Z2 EB2 HV2
                rw [hx] at q0
                rw [hy] at q2
                unfold orr at Z2 EB2
                clear hx hy HV
                go_region
                go_wp2_with fail
                obtain ⟨wq, hwq⟩ : ∃ wq, (we.setCell ⟨ub, a, none⟩ (.int .u64 (Go.bits .or .u64 x y))).drew = wq := ⟨_, rfl⟩
                rw [hwq] at Z2 EB2 ⊢
                clear hwq q0 q1 q2 q3 k0 f0 f1 Z1 EB NE
                have k1 := Z2.out.ord.c1
                have f0 : wq.cell? ⟨eb, 0, none⟩ = some (.int .i64 a) := (blk_cell EB2.out 0).trans rfl
                have f1 : wq.cell? ⟨eb, 1, none⟩ = some (.int .i64 b) := (blk_cell EB2.out 1).trans rfl
                obtain ⟨q0, q1⟩ := Z2.out.ord.d.at_ a ha
                obtain ⟨q2, q3⟩ := Z2.out.ord.d.at_ b hb3
                have Z3 := Aside0.mk (Z2.out.setD b (orr (rd s.2 b) (rd s.2 a))).drew
                obtain ⟨x2, hx⟩ : ∃ x, rd s.2 a = x := ⟨_, rfl⟩
                obtain ⟨y2, hy⟩ : ∃ x, rd s.2 b = x := ⟨_, rfl⟩
                rw [hx, hy] at Z3 HV2
                rw [hx] at q0
                rw [hy] at q2
                unfold orr at Z3 HV2
                rw [HV2.out] at HFS
                clear hx hy HV2
                go_region
                clear q0 q1 q2 q3 k1 f0 f1 Z2 EB2
                go_wp2_with fail
                go_roundw
                case rel => exact ⟨q + 1, by go_num, by omega, ⟨by rw [HFS.out]; exact Z3.out⟩⟩
                case measure => simp [intOf]; omega
              · have E : Aside0 (iterE es (r + 1) (initP k k, initP k k) = (es.take q).foldl stepE s0) := ⟨by rw [HNX.out, roundE, List.take_of_length_le (by omega)]⟩
                go_wp2_with fail
                go_roundw
                case rel => exact ⟨r + 1, by go_num, by omega, ⟨by rw [E.out]; exact Z.out⟩⟩
                case measure => simp [intOf]; omega
          · have hrk2 : r = k := by omega
            subst hrk2
            have C : Aside0 (codeM (r : Nat) es = if rightb r (closE r es).1 (closE r es).2 then 0 else 31) := ⟨by rw [codeM, if_neg (by omega), HBAD.out, Int.toNat_natCast]; rfl⟩
            have CE : Aside0 (closE r es = iterE es r (initP r r, initP r r)) := ⟨rfl⟩
            rw [← CE.out] at Z
            have HRT := Aside0.mk (right_any Z.out.ord)
            obtain ⟨us, hus⟩ : ∃ us, (closE r es).1 = us := ⟨_, rfl⟩
            obtain ⟨ds, hds⟩ : ∃ ds, (closE r es).2 = ds := ⟨_, rfl⟩
            have HU := Aside0.mk hus
            have HD := Aside0.mk hds
            rw [hus, hds] at Z HRT C
            clear hus hds CE
            obtain ⟨t, ht⟩ : ∃ t, rightb r us ds = t := ⟨_, rfl⟩
            rw [ht] at HRT C
            clear ht
            cases t with
            | true =>
              have C2 : Aside0 (codeM (r : Nat) es = 0) := C
              go_wp2_with fail
              refine HRT.out.mono ?_
              rintro e w5 ⟨rfl, d5⟩
              have Z5 := Aside0.mk (Z.out.ord.below d5.below)
              have B5 : Aside0 (Below w.heap.size w w5) := ⟨below_then Z.out.bel Z.out.bel.size d5.below⟩
              clear d5
              go_wp2_with fail
              go_ret2
              exact ⟨B5.out, .inr ⟨C2.out, ob, ub, db, rfl, by rw [Int.toNat_natCast, HU.out, HD.out]; exact Z5.out⟩⟩
            | false =>
              have C2 : Aside0 (codeM (r : Nat) es = 31) := C
              go_wp2_with fail
              refine HRT.out.mono ?_
              rintro e w5 ⟨rfl, d5⟩
              have B5 : Aside0 (Below w.heap.size w w5) := ⟨below_then Z.out.bel Z.out.bel.size d5.below⟩
              clear d5
              go_wp2_with fail
              go_ret2
              exact ⟨B5.out, .inl ⟨by rw [C2.out]; decide, by rw [C2.out]; rfl⟩⟩
end Go.Proofs.Ytpbaebjohioijaa.Lat
