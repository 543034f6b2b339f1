import Derived.Test.YtpbaebjohioijaaD
import Derived.RegionTactic
import Derived.BigRegion
namespace Go.Proofs.Ytpbaebjohioijaa.Lat
open Go.RowKit Go.Proofs.YtpbaebjohioijaaW.PrintWords Go.Proofs.YtpbaebjohioijaaW.PrintLast Go.Proofs.YtpbaebjohioijaaW.PrintMore Go.Proofs.Ytpbaebjohioijaa.PSolveLeast
set_option linter.unusedVariables false
set_option linter.unusedSimpArgs false

/-! ### Chain -/
def chP (ds : List Int) (done : Int) (l : Nat) : Bool := !hasb done l && (Go.bits .andNot .u64 (Go.bits .andNot .u64 (rd ds l) (2 ^ l)) done == 0)
def nextl (n : Nat) (ds : List Int) (done : Int) : Option Nat := (List.range n).find? (chP ds done)
def chainF (n : Nat) (ds : List Int) : Nat → Int → Option (List Int)
  | 0, _ => some []
  | k + 1, done => match nextl n ds done with | none => none | some l => (chainF n ds k (Go.bits .or .u64 done (2 ^ l))).map (fun ys => (l : Int) :: ys)
theorem chainF_succ {n : Nat} {ds : List Int} {k : Nat} {done : Int} {ys : List Int} (h : chainF n ds (k + 1) done = some ys) :
    ∃ (l : Nat) (zs : List Int), l < n ∧ ys = (l : Int) :: zs ∧ chainF n ds k (Go.bits .or .u64 done (2 ^ l)) = some zs ∧ (∀ j < l, chP ds done j = false) ∧ chP ds done l = true := by
  rw [chainF] at h
  cases hn : nextl n ds done with
  | none => rw [hn] at h; cases h
  | some l =>
    rw [hn] at h
    dsimp only at h
    cases hc : chainF n ds k (Go.bits .or .u64 done (2 ^ l)) with
    | none => rw [hc] at h; cases h
    | some zs =>
      rw [hc] at h
      rw [nextl, List.find?_range_eq_some] at hn
      obtain ⟨h1, h2, h3⟩ := hn
      refine ⟨l, zs, by simpa using h2, by injection h with h; exact h.symm, hc, fun j hj => by simpa using h3 j hj, h1⟩
theorem chainF_len {n : Nat} {ds : List Int} : ∀ {k : Nat} {done : Int} {ys : List Int}, chainF n ds k done = some ys → ys.length = k := by
  intro k
  induction k with
  | zero => intro done ys h; injection h with h; rw [← h]; rfl
  | succ k ih =>
    intro done ys h
    obtain ⟨l, zs, _, rfl, h2, _⟩ := chainF_succ h
    rw [List.length_cons, ih h2]
theorem chainF_lt {n : Nat} {ds : List Int} : ∀ {k : Nat} {done : Int} {ys : List Int}, chainF n ds k done = some ys → ∀ y ∈ ys, 0 ≤ y ∧ y < n := by
  intro k
  induction k with
  | zero => intro done ys h y hy; injection h with h; rw [← h] at hy; cases hy
  | succ k ih =>
    intro done ys h y hy
    obtain ⟨l, zs, hl, rfl, h2, _⟩ := chainF_succ h
    rcases List.mem_cons.1 hy with rfl | hy
    · omega
    · exact ih h2 y hy
set_option maxHeartbeats 1000000 in
theorem chain_any {w : World} {hb ub db n : Nat} {us ds : List Int} (h : TO w hb ub db n us ds) {xs : List Int} (hx : chainF n ds n 0 = some xs) :
    Calls Try.prog 41 #[.pointer (some ⟨hb, 0, none⟩)] w fun e w' => ∃ v, e = .returned v ∧ (Kd.int .i64).R 3 w' w.heap.size (fun _ => True) v xs ∧ Below w.heap.size w w' := by
  have h8 := h.le8
  have HT := Aside0.mk h
  have HX := Aside0.mk hx
  clear h hx
  go_enter Try.func41, Try.ntmps41
  go_wp2
  go_loopw [3, 4] (fun v d wr => ∃ (out : List Int) (m : Nat) (done : Int), d = .int .u64 done ∧ out.length + m = n ∧ Aside0 (∃ ys, chainF n ds m done = some ys ∧ out ++ ys = xs) ∧ Aside0 ((Kd.int .i64).R 3 wr w.heap.size (fun _ => True) v out) ∧ Aside0 (Below w.heap.size w wr)) (fun v _ _ => match v with | .slice _ k _ => n - k | _ => 0)
  case atStart => exact ⟨[], n, 0, rfl, by simp, ⟨xs, HX.out, rfl⟩, ⟨Kd.R_nil _ _ _ _ _⟩, ⟨Below.refl _ _⟩⟩
  case round =>
    clear HX
    obtain ⟨out, m, done, rfl, hm, HG, HR, HB⟩ := hrel
    obtain ⟨A, c, rfl, hlc, hC⟩ := Kd.R_reads HR.out
    obtain ⟨wo, rfl⟩ : ∃ wo : World, wo = wr := ⟨_, rfl⟩
    have T1 := Aside0.mk (HT.out.below HB.out)
    have HS := Aside0.mk (size_any T1.out)
    have c0 := T1.out.c0
    have hsz := HB.out.size
    clear hC
    cases m with
    | zero =>
      have hlt : ¬ out.length < n := by omega
      have E : Aside0 (out = xs) := ⟨by
        obtain ⟨ys, h1, h2⟩ := HG.out
        injection h1 with h1
        rw [← h2, ← h1, List.append_nil]⟩
      go_wp2_with (go_at_call 33; refine HS.out.mono ?_; rintro e w' ⟨rfl, rfl⟩)
      go_ret
      exact ⟨_, rfl, by rw [← E.out]; exact HR.out, HB.out⟩
    | succ m =>
      have hlt : out.length < n := by omega
      have G2 : Aside0 (∃ (l : Nat) (zs : List Int), l < n ∧ out ++ (l : Int) :: zs = xs ∧ chainF n ds m (Go.bits .or .u64 done (2 ^ l)) = some zs ∧ (∀ j < l, chP ds done j = false) ∧ chP ds done l = true) := ⟨by
        obtain ⟨ys, h1, h2⟩ := HG.out
        obtain ⟨l, zs, a1, rfl, a2, a3, a4⟩ := chainF_succ h1
        exact ⟨l, zs, a1, h2, a2, a3, a4⟩⟩
      clear HG
      obtain ⟨l0, hG⟩ := G2.out
      clear G2
      have hl0 : l0 < n := by obtain ⟨_, h, _⟩ := hG; exact h
      have G3 := Aside0.mk hG
      clear hG
      go_wp2_with (go_at_call 33; refine HS.out.mono ?_; rintro e w' ⟨rfl, rfl⟩)
      go_loopw [3, 4, 16] (fun v d i wr => ∃ q : Nat, v = .slice A out.length c ∧ d = .int .u64 done ∧ i = .int .i64 q ∧ q ≤ l0 ∧ Aside0 (Drawn0 wo wr)) (fun v d i _ => n - (intOf i).toNat)
      case atStart => exact ⟨0, rfl, rfl, rfl, Nat.zero_le _, ⟨Drawn0.refl _⟩⟩
      case round =>
        obtain ⟨q, rfl, rfl, rfl, hq, D0⟩ := hrel
        obtain ⟨wi, rfl⟩ : ∃ wi : World, wi = wr := ⟨_, rfl⟩
        have T2 := Aside0.mk (T1.out.drawn D0.out)
        have hqn : q < n := by omega
        obtain ⟨d0, _⟩ := T2.out.d.at_ q hqn
        have k1 := T2.out.c1
        have H40 : Aside0 (∀ W, Drawn0 wi W → Calls Try.prog 34 #[.int .u64 done, .int .i64 q] W fun e w' => e = .returned (.bool (hasb done q)) ∧ w' = W) := ⟨fun W d => (has_any done q (by omega) (by omega) W).mono (fun _ _ h => ⟨h.1, h.2.symm⟩)⟩
        have H33 : Aside0 (∀ W, Drawn0 wi W → Calls Try.prog 37 #[.int .i64 q] W fun e w' => e = .returned (.int .u64 (2 ^ q)) ∧ w' = W) := ⟨fun W d => (one_any q (by omega) (by omega) W).mono (fun _ _ h => ⟨h.1, h.2.symm⟩)⟩
        have HP : Aside0 (chP ds done q = (!hasb done q && (Go.bits .andNot .u64 (Go.bits .andNot .u64 (rd ds q) (2 ^ q)) done == 0))) := ⟨rfl⟩
        have HQ : Aside0 (q < l0 → chP ds done q = false) := ⟨fun h => by obtain ⟨_, _, _, _, h1, _⟩ := G3.out; exact h1 q h⟩
        have HQ2 : Aside0 (q = l0 → chP ds done q = true) := ⟨fun h => by obtain ⟨_, _, _, _, _, h1⟩ := G3.out; rw [h]; exact h1⟩
        obtain ⟨x, hx⟩ : ∃ x : Int, 2 ^ q = x := ⟨_, rfl⟩
        have HXX := Aside0.mk hx
        obtain ⟨y, hy⟩ : ∃ y, rd ds q = y := ⟨_, rfl⟩
        obtain ⟨t, ht⟩ : ∃ t, hasb done q = t := ⟨_, rfl⟩
        rw [hx] at H33 HP
        rw [hy] at d0 HP
        rw [ht] at H40 HP
        clear hx hy ht
        obtain ⟨z0, hz0⟩ : ∃ z, Go.bits .andNot .u64 y x = z := ⟨_, rfl⟩
        obtain ⟨z, hz⟩ : ∃ z, Go.bits .andNot .u64 z0 done = z := ⟨_, rfl⟩
        rw [hz0, hz] at HP
        by_cases hql : q = l0
        · subst hql
          have P := HP.out.symm.trans (HQ2.out rfl)
          obtain ⟨p1, p2⟩ : t = false ∧ z = 0 := by simpa using P
          subst p1 p2
          clear P HP HQ HQ2
          go_wp2_with fail
          go_quiet (first | (go_at_call 34; exact (H40.out _ (Drawn0.step (Drawn0.refl wi) _)).mono (fun _ _ h => ⟨h.1, _, h.2⟩)) | (go_at_call 37; exact (H33.out _ (Drawn0.step (Drawn0.refl wi) _)).mono (fun _ _ h => ⟨h.1, _, h.2⟩)))
          have D1 : Drawn0 wo (wi.drewN nq) := Drawn0.step D0.out nq
          have DI : Drawn0 wi (wi.drewN nq) := Drawn0.step (Drawn0.refl wi) nq
          have BB := Aside0.mk (below_then HB.out hsz D1.below)
          have R1 := Aside0.mk (Kd.R_old HR.out D1.below)
          have HH := Aside0.mk (H33.out _ DI)
          clear k1 c0 d0 hz0 hz
          go_wp2_with (first
            | (go_at_call 37; refine HH.out.mono ?_; rintro e w' ⟨rfl, rfl⟩)
            | (at_builtin; go_loud (refine Kd.R_append (Kd.int .i64) w.heap.size rfl (.tmp 42) (.tmp 44) 26 3 _ 8 rfl Try.underlying26 info3 rfl (by decide) (by decide) (.slice A out.length c) out (q : Int) [.int .i64 q] (fun _ => True) (fun _ => False) rfl rfl rfl (fun _ h => h.elim) (fun _ _ => trivial) (Kd.R_mono R1.out (fun _ hk => hk.1)) BB.out BB.out.size (by omega) ?_; intro v1 w1 hv1 hb1 hg1 hat1)))
          have HV1 := Aside0.mk hv1
          have HB3 := Aside0.mk hb1
          obtain ⟨A7, c7, hv7, _, _⟩ := Kd.R_reads hv1
          have hl7 : (out ++ [(q : Int)]).length = out.length + 1 := by simp
          rw [hl7] at hv7
          clear hv1 hb1 hg1 hat1
          subst hv7
          go_wp2
          go_roundw
          case rel => exact ⟨out ++ [(q : Int)], m, _, rfl, by rw [hl7]; omega, ⟨by
            obtain ⟨zs, _, h1, h2, _, _⟩ := G3.out
            rw [HXX.out] at h2
            exact ⟨zs, h2, by rw [List.append_assoc]; exact h1⟩⟩, HV1, HB3⟩
          case measure => simp; omega
        · have P := HP.out.symm.trans (HQ.out (by omega))
          clear HP HQ HQ2
          cases t with
          | true =>
            go_wp2_with fail
            go_quiet (first | (go_at_call 34; exact (H40.out _ (Drawn0.step (Drawn0.refl wi) _)).mono (fun _ _ h => ⟨h.1, _, h.2⟩)))
            go_wp2
            go_roundw
            case rel => exact ⟨q + 1, rfl, rfl, by go_num, by omega, ⟨Drawn0.step D0.out nq⟩⟩
            case measure => simp [intOf]; omega
          | false =>
            have p2 : ¬ z = 0 := by simpa using P
            have p3 : (z == 0) = false := beq_eq_false_iff_ne.2 p2
            clear P
            go_wp2_with fail
            go_quiet (first | (go_at_call 34; exact (H40.out _ (Drawn0.step (Drawn0.refl wi) _)).mono (fun _ _ h => ⟨h.1, _, h.2⟩)) | (go_at_call 37; exact (H33.out _ (Drawn0.step (Drawn0.refl wi) _)).mono (fun _ _ h => ⟨h.1, _, h.2⟩)))
            go_wp2
            go_roundw
            case rel => exact ⟨q + 1, rfl, rfl, by go_num, by omega, ⟨Drawn0.step D0.out nq⟩⟩
            case measure => simp [intOf]; omega
end Go.Proofs.Ytpbaebjohioijaa.Lat
namespace Go.Proofs.Ytpbaebjohioijaa.Lat
open Go.RowKit Go.Proofs.YtpbaebjohioijaaW.PrintWords Go.Proofs.YtpbaebjohioijaaW.PrintLast Go.Proofs.YtpbaebjohioijaaW.PrintMore Go.Proofs.Ytpbaebjohioijaa.PSolveLeast
attribute [local go_sem] max2_int max_two
set_option linter.unusedVariables false
set_option linter.unusedSimpArgs false

/-! ### slices.Max -/
def maxN (xs : List Int) : Nat → Int
  | 0 => rd xs 0
  | k + 1 => mx (maxN xs k) (rd xs ((k + 1 : Nat) : Int))
def maxM (xs : List Int) : Int := maxN xs (xs.length - 1)
theorem max_any (A : Option Addr) (xs : List Int) (n c : Nat) (w : World) (hr : Kd.C (Kd.int .i64) w A n xs) (h0 : 0 < n) (h1 : n ≤ 1000000) (hl : xs.length = n) :
    Calls Try.prog 42 #[.slice A n c] w fun e w' => e = .returned (.int .i64 (maxM xs)) ∧ w = w' := by
  have HR := Aside0.mk hr
  have HM : Aside0 (maxM xs = maxN xs (n - 1)) := ⟨by rw [maxM, hl]⟩
  obtain ⟨ad, eA, c0⟩ := Kd.at_int hr 0 (by omega) (by omega)
  subst eA
  rw [Int.toNat_zero, Addr.add_zero'] at c0
  clear hr hl
  have hn0 : ¬ (n : Int) < 1 := by omega
  go_enter Try.func42, Try.ntmps42
  go_wp2
  clear hn0 c0
  go_loopw [3, 4] (fun m i wr => ∃ j : Nat, m = .int .i64 (maxN xs j) ∧ i = .int .i64 ((j + 1 : Nat) : Int) ∧ j + 1 ≤ n ∧ w = wr) (fun m i _ => n - (intOf i).toNat)
  case atStart => exact ⟨0, rfl, rfl, h0, by first | rfl | trivial⟩
  case round =>
    obtain ⟨j, rfl, rfl, hj, rfl⟩ := hrel
    by_cases hlt : j + 1 < n
    · obtain ⟨ad2, e2, c1⟩ := Kd.at_int HR.out ((j + 1 : Nat) : Int) (by omega) (by omega)
      obtain rfl : ad = ad2 := by injection e2
      rw [Int.toNat_natCast] at c1
      clear e2
      have HN : Aside0 (maxN xs (j + 1) = mx (maxN xs j) (rd xs ((j + 1 : Nat) : Int))) := ⟨rfl⟩
      obtain ⟨y, hy⟩ : ∃ y, rd xs ((j + 1 : Nat) : Int) = y := ⟨_, rfl⟩
      obtain ⟨x, hx⟩ : ∃ x, maxN xs j = x := ⟨_, rfl⟩
      rw [hy] at c1 HN
      rw [hx] at HN ⊢
      clear hx hy
      obtain ⟨q, hq⟩ : ∃ q : Nat, j + 1 = q := ⟨_, rfl⟩
      rw [hq] at hlt hj c1 HN ⊢
      by_cases hxy : x < y
      · have HV : Aside0 (maxN xs q = y) := ⟨by rw [HN.out, mx, if_pos hxy]⟩
        go_wp2
        go_roundw
        case rel => exact ⟨q, by rw [HV.out], by go_num, by omega, by first | rfl | trivial⟩
        case measure => simp [intOf]; omega
      · have HV : Aside0 (maxN xs q = x) := ⟨by rw [HN.out, mx, if_neg hxy]⟩
        go_wp2
        go_roundw
        case rel => exact ⟨q, by rw [HV.out], by go_num, by omega, by first | rfl | trivial⟩
        case measure => simp [intOf]; omega
    · have e : Aside0 (maxM xs = maxN xs j) := ⟨by rw [HM.out]; congr 1; omega⟩
      go_wp2
      go_ret
      exact ⟨by rw [e.out]; rfl, by first | rfl | trivial⟩

/-! ### Height -/
def hIn (ds : List Int) (l : Int) (rk : List Int) (b : Nat) : List Int := if decide ((b : Int) ≠ l) && hasb (rd ds l) b then rk.set l.toNat (mx (rd rk l) (rd rk b)) else rk
def hMid (n : Nat) (ds : List Int) (l : Int) (rk : List Int) : List Int := (List.range n).foldl (hIn ds l) rk
def hOut (n : Nat) (ds : List Int) (rk : List Int) (l : Int) : List Int := (hMid n ds l rk).set l.toNat (rd (hMid n ds l rk) l + 1)
def ranks (n : Nat) (ds xs : List Int) : List Int := xs.foldl (hOut n ds) (List.replicate n 0)
def heightM (n : Nat) (ds xs : List Int) : Int := maxM (ranks n ds xs)
/-- A row of ranks at block b, none above k. -/
structure RI (w : World) (b n k : Nat) (rk : List Int) : Prop where
  bk : w.heap[b]? = some (.cells (nums .i64 rk).toArray 3 (0, 0))
  len : rk.length = n
  bd : ∀ y ∈ rk, 0 ≤ y ∧ y ≤ k
theorem rd_mem {xs : List Int} {i : Nat} (h : i < xs.length) : rd xs (i : Int) ∈ xs := by
  have : rd xs (i : Int) = xs[i] := by simp [rd, List.getD_eq_getElem?_getD, h]
  rw [this]
  exact List.getElem_mem h
theorem numsI_get (xs : List Int) (i : Nat) (h : i < xs.length) : (nums .i64 xs).toArray[i]? = some (.int .i64 (rd xs i)) := by
  simp [nums, rd, List.getD_eq_getElem?_getD, h]
theorem RI.at_ {w : World} {b n k : Nat} {rk : List Int} (h : RI w b n k rk) (i : Nat) (h1 : i < n) : w.cell? ⟨b, i, none⟩ = some (.int .i64 (rd rk i)) ∧ w.frozen? ⟨b, i, none⟩ = false ∧ 0 ≤ rd rk i ∧ rd rk i ≤ k :=
  ⟨(blk_cell h.bk _).trans (numsI_get rk i (by rw [h.len]; exact h1)), blk_frozen h.bk _, h.bd _ (rd_mem (by rw [h.len]; exact h1))⟩
theorem RI.put {w : World} {b n k : Nat} {rk : List Int} (h : RI w b n k rk) (i : Nat) (v : Int) (k' : Nat) (hk : k ≤ k') (hv : 0 ≤ v ∧ v ≤ k') : RI (w.setCell ⟨b, i, none⟩ (.int .i64 v)) b n k' (rk.set i v) := by
  refine ⟨?_, by rw [List.length_set, h.len], fun y hy => ?_⟩
  · have := blk_set h.bk i (.int .i64 v)
    rw [this]
    congr 2
    apply Array.ext'
    simp [nums, List.map_set]
  · rcases List.mem_or_eq_of_mem_set hy with hy | rfl
    · have := h.bd y hy
      omega
    · exact hv
theorem RI.drawn {w w' : World} {b n k : Nat} {rk : List Int} (h : RI w b n k rk) (d : Drawn0 w w') : RI w' b n k rk := ⟨blk_below h.bk d.below, h.len, h.bd⟩
theorem RI.made (w : World) (n : Nat) : RI (w.alloc (.cells (madeCells #[Value.int .i64 0] n) 3)) w.heap.size n 0 (List.replicate n 0) := by
  refine ⟨?_, by simp, fun y hy => by rw [(List.mem_replicate.1 hy).2]; decide⟩
  rw [blk_new]
  congr 2
  apply Array.ext'
  apply List.ext_getElem
  · simp [nums, madeCells]
  · intro i h1 h2
    simp [nums, madeCells, Nat.mod_one]
theorem RI.C {w : World} {b n k : Nat} {rk : List Int} (h : RI w b n k rk) (h8 : n ≤ 8) : Kd.C (Kd.int .i64) w (some ⟨b, 0, none⟩) n rk := by
  obtain ⟨bk, rfl, bd⟩ := h
  refine Kd.C_of_reads (d := (0 : Int)) (h1 := fun _ => rfl) ⟨rfl, by omega, fun hn => ⟨_, rfl, fun j hj => ?_⟩⟩
  rw [add_plain, blk_cell bk, numsI_get rk j hj]
  simp [rd]
theorem TO.foot {w w' : World} {hb ub db n : Nat} {us ds : List Int} {S : Nat → Prop} (h : TO w hb ub db n us ds) (hf : Foot S w w') (h1 : ¬ S hb) (h2 : ¬ S ub) (h3 : ¬ S db) : TO w' hb ub db n us ds :=
  ⟨hf.blk h.hbk h1, ⟨hf.blk h.u.bk h2, h.u.len⟩, ⟨hf.blk h.d.bk h3, h.d.len⟩, h.ne, h.le8⟩
end Go.Proofs.Ytpbaebjohioijaa.Lat
