import Derived.Test.YtnjfiinnidklaaaE
import Derived.RegionTactic
import Derived.BigRegion
namespace Go.Proofs.Ytnjfiinnidklaaa.Lat
open Go.RowKit Go.Proofs.YtnjfiinnidklaaaW.PrintWords Go.Proofs.YtnjfiinnidklaaaW.PrintLast Go.Proofs.YtnjfiinnidklaaaW.PrintMore Go.Proofs.Ytnjfiinnidklaaa.PLatticeNews
attribute [local go_sem] max2_int max_two
set_option linter.unusedVariables false
set_option linter.unusedSimpArgs false

/-! ### slices.Max -/
def maxN (xs : List Int) : Nat → Int
  | 0 => rd xs 0
  | k + 1 => mx (maxN xs k) (rd xs ((k + 1 : Nat) : Int))
def maxM (xs : List Int) : Int := maxN xs (xs.length - 1)
theorem max_any (A : Option Addr) (xs : List Int) (n c : Nat) (w : World) (hr : Kd.C (Kd.int .i64) w A n xs) (h0 : 0 < n) (h1 : n ≤ 1000000) (hl : xs.length = n) :
    Calls Try.prog 41 #[.slice A n c] w fun e w' => e = .returned (.int .i64 (maxM xs)) ∧ w = w' := by
  have HR := Aside0.mk hr
  have HM : Aside0 (maxM xs = maxN xs (n - 1)) := ⟨by rw [maxM, hl]⟩
  obtain ⟨ad, eA, c0⟩ := Kd.at_int hr 0 (by omega) (by omega)
  subst eA
  rw [Int.toNat_zero, Addr.add_zero'] at c0
  clear hr hl
  have hn0 : ¬ (n : Int) < 1 := by omega
  go_enter Try.func41, Try.ntmps41
  go_wp2
  clear hn0 c0
  go_loopw [3, 4] (fun m i wr => ∃ j : Nat, m = .int .i64 (maxN xs j) ∧ i = .int .i64 ((j + 1 : Nat) : Int) ∧ j + 1 ≤ n ∧ w = wr) (fun m i _ => n - (intOf i).toNat)
  case atStart => exact ⟨0, rfl, rfl, h0, by first | rfl | trivial⟩
  case round =>
    obtain ⟨j, rfl, rfl, hj, rfl⟩ := hrel
    by_cases hlt : j + 1 < n
    · obtain ⟨ad2, e2, c1⟩ := Kd.at_int HR.out ((j + 1 : Nat) : Int) (by omega) (by omega)
      obtain rfl : ad = ad2 := by injection e2
      rw [Int.toNat_natCast] at c1
      clear e2
      have HN : Aside0 (maxN xs (j + 1) = mx (maxN xs j) (rd xs ((j + 1 : Nat) : Int))) := ⟨rfl⟩
      obtain ⟨y, hy⟩ : ∃ y, rd xs ((j + 1 : Nat) : Int) = y := ⟨_, rfl⟩
      obtain ⟨x, hx⟩ : ∃ x, maxN xs j = x := ⟨_, rfl⟩
      rw [hy] at c1 HN
      rw [hx] at HN ⊢
      clear hx hy
      obtain ⟨q, hq⟩ : ∃ q : Nat, j + 1 = q := ⟨_, rfl⟩
      rw [hq] at hlt hj c1 HN ⊢
      by_cases hxy : x < y
      · have HV : Aside0 (maxN xs q = y) := ⟨by rw [HN.out, mx, if_pos hxy]⟩
        go_wp2
        go_roundw
        case rel => exact ⟨q, by rw [HV.out], by go_num, by omega, by first | rfl | trivial⟩
        case measure => simp [intOf]; omega
      · have HV : Aside0 (maxN xs q = x) := ⟨by rw [HN.out, mx, if_neg hxy]⟩
        go_wp2
        go_roundw
        case rel => exact ⟨q, by rw [HV.out], by go_num, by omega, by first | rfl | trivial⟩
        case measure => simp [intOf]; omega
    · have e : Aside0 (maxM xs = maxN xs j) := ⟨by rw [HM.out]; congr 1; omega⟩
      go_wp2
      go_ret
      exact ⟨by rw [e.out]; rfl, by first | rfl | trivial⟩

/-! ### Height -/
def hIn (ds : List Int) (l : Int) (rk : List Int) (b : Nat) : List Int := if decide ((b : Int) ≠ l) && hasb (rd ds l) b then rk.set l.toNat (mx (rd rk l) (rd rk b)) else rk
def hMid (n : Nat) (ds : List Int) (l : Int) (rk : List Int) : List Int := (List.range n).foldl (hIn ds l) rk
def hOut (n : Nat) (ds : List Int) (rk : List Int) (l : Int) : List Int := (hMid n ds l rk).set l.toNat (rd (hMid n ds l rk) l + 1)
def ranks (n : Nat) (ds xs : List Int) : List Int := xs.foldl (hOut n ds) (List.replicate n 0)
def heightM (n : Nat) (ds xs : List Int) : Int := maxM (ranks n ds xs)
/-- A row of ranks at block b, none above k. -/
structure RI (w : World) (b n k : Nat) (rk : List Int) : Prop where
  bk : w.heap[b]? = some (.cells (nums .i64 rk).toArray 3 (0, 0))
  len : rk.length = n
  bd : ∀ y ∈ rk, 0 ≤ y ∧ y ≤ k
theorem rd_mem {xs : List Int} {i : Nat} (h : i < xs.length) : rd xs (i : Int) ∈ xs := by
  have : rd xs (i : Int) = xs[i] := by simp [rd, List.getD_eq_getElem?_getD, h]
  rw [this]
  exact List.getElem_mem h
theorem numsI_get (xs : List Int) (i : Nat) (h : i < xs.length) : (nums .i64 xs).toArray[i]? = some (.int .i64 (rd xs i)) := by
  simp [nums, rd, List.getD_eq_getElem?_getD, h]
theorem RI.at_ {w : World} {b n k : Nat} {rk : List Int} (h : RI w b n k rk) (i : Nat) (h1 : i < n) : w.cell? ⟨b, i, none⟩ = some (.int .i64 (rd rk i)) ∧ w.frozen? ⟨b, i, none⟩ = false ∧ 0 ≤ rd rk i ∧ rd rk i ≤ k :=
  ⟨(blk_cell h.bk _).trans (numsI_get rk i (by rw [h.len]; exact h1)), blk_frozen h.bk _, h.bd _ (rd_mem (by rw [h.len]; exact h1))⟩
theorem RI.put {w : World} {b n k : Nat} {rk : List Int} (h : RI w b n k rk) (i : Nat) (v : Int) (k' : Nat) (hk : k ≤ k') (hv : 0 ≤ v ∧ v ≤ k') : RI (w.setCell ⟨b, i, none⟩ (.int .i64 v)) b n k' (rk.set i v) := by
  refine ⟨?_, by rw [List.length_set, h.len], fun y hy => ?_⟩
  · have := blk_set h.bk i (.int .i64 v)
    rw [this]
    congr 2
    apply Array.ext'
    simp [nums, List.map_set]
  · rcases List.mem_or_eq_of_mem_set hy with hy | rfl
    · have := h.bd y hy
      omega
    · exact hv
theorem RI.drawn {w w' : World} {b n k : Nat} {rk : List Int} (h : RI w b n k rk) (d : Drawn0 w w') : RI w' b n k rk := ⟨blk_below h.bk d.below, h.len, h.bd⟩
theorem RI.made (w : World) (n : Nat) : RI (w.alloc (.cells (madeCells #[Value.int .i64 0] n) 3)) w.heap.size n 0 (List.replicate n 0) := by
  refine ⟨?_, by simp, fun y hy => by rw [(List.mem_replicate.1 hy).2]; decide⟩
  rw [blk_new]
  congr 2
  apply Array.ext'
  apply List.ext_getElem
  · simp [nums, madeCells]
  · intro i h1 h2
    simp [nums, madeCells, Nat.mod_one]
theorem RI.C {w : World} {b n k : Nat} {rk : List Int} (h : RI w b n k rk) (h8 : n ≤ 8) : Kd.C (Kd.int .i64) w (some ⟨b, 0, none⟩) n rk := by
  obtain ⟨bk, rfl, bd⟩ := h
  refine Kd.C_of_reads (d := (0 : Int)) (h1 := fun _ => rfl) ⟨rfl, by omega, fun hn => ⟨_, rfl, fun j hj => ?_⟩⟩
  rw [add_plain, blk_cell bk, numsI_get rk j hj]
  simp [rd]
theorem TO.foot {w w' : World} {hb ub db n : Nat} {us ds : List Int} {S : Nat → Prop} (h : TO w hb ub db n us ds) (hf : Foot S w w') (h1 : ¬ S hb) (h2 : ¬ S ub) (h3 : ¬ S db) : TO w' hb ub db n us ds :=
  ⟨hf.blk h.hbk h1, ⟨hf.blk h.u.bk h2, h.u.len⟩, ⟨hf.blk h.d.bk h3, h.d.len⟩, h.ne, h.le8⟩
end Go.Proofs.Ytnjfiinnidklaaa.Lat
