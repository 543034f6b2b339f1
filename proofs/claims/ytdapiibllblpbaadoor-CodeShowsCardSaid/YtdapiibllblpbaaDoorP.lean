import Derived.Test.YtdapiibllblpbaaDoorO
import Derived.Test.YtdapiibllblpbaaDoorShelf
namespace Go.Proofs.YtdapiibllblpbaaDoor.Code
open Go.RowKit Go.Proofs.YtdapiibllblpbaaDoorW.PrintWords Go.Proofs.YtdapiibllblpbaaDoorW.PrintLast Go.Proofs.YtdapiibllblpbaaDoorW.PrintMore Go.Proofs.YtdapiibllblpbaaDoor.PCodeAnswers
set_option linter.unusedVariables false
set_option linter.unusedSimpArgs false

/-! ### A word or a number, boxed -/
inductive Wd where
  | num (v : Int)
  | txt (b : ByteArray)
def wdV : Wd → Value
  | .num v => .iface 3 (.int .i64 v)
  | .txt b => .iface 9 (.string b)
theorem wdV_one (x : Wd) : (wdV x).oneCell' = true := by cases x <;> rfl
def kWd : Kd Wd := Kd.scalar wdV wdV_one
def wdAt (l : List Wd) (i : Int) : Wd := rdOf (.num 0) l i
theorem at_wd {w : World} {A : Option Addr} {n : Nat} {xs : List Wd} (h : kWd.C w A n xs) (i : Int) (h0 : 0 ≤ i) (h1 : i < n) : ∃ ad, A = some ad ∧ w.cell? (ad.add i.toNat) = some (wdV (wdAt xs i)) :=
  ReadsOf.at_ (Kd.reads_of_C (enc := wdV) (d := (.num 0)) (h1 := wdV_one) h) i h0 h1
def piece : Wd → ByteArray
  | .num v => ⟨(Lib.itoa v).toArray⟩
  | .txt b => b
def lineL (l : List Wd) : List UInt8 := Lib.join (l.map fun x => (piece x).data.toList) [32] ++ [10]
def lineB (l : List Wd) : ByteArray := ⟨(lineL l).toArray⟩
def wdOk : Wd → Prop
  | .num v => -9223372036854775808 ≤ v ∧ v ≤ 9223372036854775807
  | .txt _ => True
def Pow10 (w : World) : Prop := Lib.TabIs Tryd.prog w "internal/strconv.uint64pow10" .u64 Lib.pow10Tab
theorem glob10 : ∃ g, Tryd.prog.globalNamed "internal/strconv.uint64pow10" = some g := Option.isSome_iff_exists.1 (by kernel_rfl)
theorem Pow10.below {w w' : World} (h : Pow10 w) (hb : Below w.heap.size w w') : Pow10 w' := by
  obtain ⟨g, hg⟩ := glob10
  unfold Pow10 Lib.TabIs World.var? at h ⊢
  rw [hg] at h ⊢
  simp only [Option.bind_some] at h ⊢
  have hlt : g < w.heap.size := by
    rcases Nat.lt_or_ge g w.heap.size with h' | h'
    · exact h'
    · rw [Array.getElem?_eq_none h'] at h; cases h
  rw [hb.block g hlt]
  exact h
theorem itoa_any (v : Int) (w : World) (hv : wdOk (.num v)) (ht : Pow10 w) :
    Calls Tryd.prog 52 #[.int .i64 v] w fun e w' => e = .returned (.string ⟨(Lib.itoa v).toArray⟩) ∧ Below w.heap.size w w' := by
  refine (Tryd.strconv_Itoa v hv.1 hv.2 w ht).mono ?_
  rintro e w' ⟨h, k, os, rfl⟩
  refine ⟨h, rfl, rfl, rfl, by simp [Sort.grow], fun i hi => ?_⟩
  show ((w.drewN k).heap ++ os)[i]? = _
  rw [Array.getElem?_append_left (by show i < w.heap.size; omega)]
  rfl
theorem as_num (z : Int) (w : World) : (Instr.typeAssert (.iface 3 (.int .i64 z)) 20 3 true).run Tryd.prog w = .ok (.tuple #[.int .i64 z, .bool true]) w := by
  simp [Instr.typeAssert, Tryd.underlying3, Tryd.underlying20]
theorem as_num_not (b : ByteArray) (w : World) : (Instr.typeAssert (.iface 9 (.string b)) 20 3 true).run Tryd.prog w = .ok (.tuple #[.int .i64 0, .bool false]) w := by
  simp [Instr.typeAssert, Tryd.underlying3, Tryd.underlying9, Tryd.zeroValue3]
theorem as_txt (b : ByteArray) (w : World) : (Instr.typeAssert (.iface 9 (.string b)) 20 9 true).run Tryd.prog w = .ok (.tuple #[.string b, .bool true]) w := by
  simp [Instr.typeAssert, Tryd.underlying3, Tryd.underlying9, Tryd.zeroValue3]
theorem wdAt_get (l : List Wd) (k : Nat) (hk : k < l.length) : wdAt l k = l[k] := by
  unfold wdAt rdOf
  rw [Int.toNat_natCast, List.getD_eq_getElem?_getD, List.getElem?_eq_getElem hk]
  rfl
theorem take_piece (l : List Wd) (k : Nat) (hk : k < l.length) : (l.take (k + 1)).map piece = (l.take k).map piece ++ [piece (wdAt l k)] := by
  rw [List.take_succ_eq_append_getElem hk, List.map_append, wdAt_get l k hk]
  rfl
set_option maxRecDepth 100000 in
set_option maxHeartbeats 2000000 in
theorem line_any (A : Option Addr) (c : Nat) (l : List Wd) (w : World) (hr : kWd.C w A l.length l) (hl : l.length ≤ 1100000) (hok : ∀ x ∈ l, wdOk x) (hlen : (Lib.join (l.map fun x => (piece x).data.toList) [32]).length ≤ 140737488355328) (ht : Pow10 w) :
    Calls Tryd.prog 40 #[.slice A l.length c] w fun e w' => e = .returned (.string (lineB l)) ∧ Below w.heap.size w w' := by
  have HR := Aside0.mk hr
  have HT := Aside0.mk ht
  have HOK := Aside0.mk hok
  have HLEN := Aside0.mk hlen
  clear hr ht hok hlen
  go_enter Tryd.func40, Tryd.ntmps40
  go_wp2
  go_loopw [3, 10] (fun v i wr => ∃ (k : Nat) (ys : List ByteArray), i = .int .i64 k ∧ k ≤ l.length ∧ Aside0 (ys = (l.take k).map piece) ∧ Aside0 (Kd.string.R 9 wr w.heap.size (fun _ => True) v ys) ∧ Aside0 (Below w.heap.size w wr)) (fun _ i _ => l.length - (intOf i).toNat)
  case atStart => exact ⟨0, [], rfl, Nat.zero_le _, ⟨rfl⟩, ⟨Kd.R_nil _ _ _ _ _⟩, ⟨Below.refl _ _⟩⟩
  case round =>
    obtain ⟨k, ys, rfl, hk, HY, HV, HB⟩ := hrel
    obtain ⟨wi, rfl⟩ : ∃ wi : World, wi = wr := ⟨_, rfl⟩
    obtain ⟨A2, c2, hv, hlc, _⟩ := Kd.R_reads HV.out
    subst hv
    have hzi := HB.out.size
    by_cases hlt : k < l.length
    · obtain ⟨ad, eA, d0⟩ := at_wd (Kd.C_below HR.out HB.out) k (by omega) (by omega)
      subst eA
      rw [Int.toNat_natCast] at d0
      have HX : Aside0 ((l.take (k + 1)).map piece = ys ++ [piece (wdAt l k)]) := ⟨by rw [HY.out]; exact take_piece l k hlt⟩
      have HXK : Aside0 (wdOk (wdAt l k)) := ⟨HOK.out _ (by rw [wdAt_get l k hlt]; exact List.getElem_mem _)⟩
      have hlk : ys.length ≤ 1100000 := by rw [HY.out, List.length_map]; have := List.length_take_le k l; omega
      obtain ⟨x, hx⟩ : ∃ x, wdAt l k = x := ⟨_, rfl⟩
      rw [hx] at d0 HX HXK
      clear hx
      cases x with
      | num z =>
        have d0' : wi.cell? (ad.add k) = some (.iface 3 (.int .i64 z)) := d0
        have hta := as_num z
        clear d0
        have CI := Aside0.mk (itoa_any z wi HXK.out (HT.out.below HB.out))
        go_wp2_with fail
        refine CI.out.mono ?_
        rintro e w2 ⟨rfl, b⟩
        have V2 := Aside0.mk (Kd.R_below HV.out b)
        have B2 := Aside0.mk (below_then HB.out HB.out.size b)
        have hz2 := B2.out.size
        clear b CI HV HB
        go_wp2_with (at_builtin; go_loud (refine Kd.R_append Kd.string w.heap.size rfl (.tmp 18) (.tmp 21) 23 9 (.string ⟨#[]⟩) 16 rfl Tryd.underlying23 info9 rfl (by decide) (by decide) (.slice A2 ys.length c2) ys ⟨(Lib.itoa z).toArray⟩ [.string ⟨(Lib.itoa z).toArray⟩] (fun _ => True) (fun _ => False) rfl rfl rfl (fun _ h => h.elim) (fun _ _ => trivial) V2.out B2.out hz2 (by omega) ?_; intro v1 w9 hv1 hb1 hg1 hat1))
        have V6 := Aside0.mk hv1
        have B6 := Aside0.mk hb1
        clear hv1 hb1 hg1 hat1
        go_wp2
        go_roundw
        case rel => exact ⟨k + 1, _, by go_num, hlt, ⟨HX.out.symm⟩, V6, B6⟩
        case measure => simp [intOf]; omega
      | txt z =>
        have d0' : wi.cell? (ad.add k) = some (.iface 9 (.string z)) := d0
        have hta := as_num_not z
        have htb := as_txt z
        clear d0
        go_wp2_with (at_builtin; go_loud (refine Kd.R_append Kd.string w.heap.size rfl (.tmp 26) (.tmp 28) 23 9 (.string ⟨#[]⟩) 16 rfl Tryd.underlying23 info9 rfl (by decide) (by decide) (.slice A2 ys.length c2) ys z [.string z] (fun _ => True) (fun _ => False) rfl rfl rfl (fun _ h => h.elim) (fun _ _ => trivial) HV.out HB.out hzi (by omega) ?_; intro v1 w9 hv1 hb1 hg1 hat1))
        have V6 := Aside0.mk hv1
        have B6 := Aside0.mk hb1
        clear hv1 hb1 hg1 hat1
        go_wp2
        go_roundw
        case rel => exact ⟨k + 1, _, by go_num, hlt, ⟨HX.out.symm⟩, V6, B6⟩
        case measure => simp [intOf]; omega
    · have : k = l.length := by omega
      subst this
      rw [List.take_length] at HY
      have CJ : Aside0 (Calls Tryd.prog 53 #[.slice A2 ys.length c2, .string ⟨#[32]⟩] wi fun e w' => e = .returned (.string ⟨(Lib.join (l.map fun x => (piece x).data.toList) [32]).toArray⟩) ∧ Below wi.heap.size wi w') := by
        have hym : (l.map fun x => (piece x).data.toList) = ys.map (·.data.toList) := by rw [HY.out, List.map_map]; rfl
        have hln := HLEN.out
        rw [hym] at hln
        rw [hym]
        have hlk : ys.length ≤ 1100000 := by rw [HY.out, List.length_map]; omega
        rcases Nat.eq_zero_or_pos ys.length with h0 | h0
        · have : ys = [] := List.length_eq_zero_iff.1 h0
          subst this
          refine ⟨(Tryd.strings_Join_none A2 c2 ⟨#[32]⟩ wi).mono ?_⟩
          rintro e w' ⟨h, rfl⟩
          exact ⟨h, Below.refl _ _⟩
        · obtain ⟨g, cap, e, hb, hg, _⟩ := Kd.R_form HV.out h0
          cases e
          refine ⟨Tryd.strings_Join g 0 c2 ys ⟨#[32]⟩ wi (fun j x hj => ?_) hg (by omega) hlc hln⟩
          have hjl : j < ys.length := (List.getElem?_eq_some_iff.1 hj).1
          have := (Kd.R_cell (ByteArray.empty) HV.out j (by omega) (by omega)).1
          rw [Nat.zero_add]
          refine Eq.trans this ?_
          unfold rdOf
          rw [Int.toNat_natCast, List.getD_eq_getElem?_getD, hj]
          rfl
      go_wp2_with fail
      refine CJ.out.mono ?_
      rintro e w2 ⟨rfl, b⟩
      have B2 := Aside0.mk (below_then HB.out HB.out.size b)
      clear b CJ
      have hjs : ((⟨(Lib.join (l.map fun x => (piece x).data.toList) [32]).toArray⟩ : ByteArray)).size ≤ 140737488355328 := by
        show (List.toArray _).size ≤ _
        rw [List.size_toArray]
        exact HLEN.out
      obtain ⟨jb, hjb⟩ : ∃ jb : ByteArray, ⟨(Lib.join (l.map fun x => (piece x).data.toList) [32]).toArray⟩ = jb := ⟨_, rfl⟩
      rw [hjb] at hjs
      rw [hjb]
      have HJ : Aside0 (lineB l = jb ++ ⟨#[10]⟩) := ⟨by
        rw [← hjb]
        unfold lineB lineL
        apply ByteArray.ext
        simp⟩
      clear hjb
      have hj2 : jb.size + 1 ≤ 140737488355329 := by omega
      go_wp2_with fail
      go_ret
      exact ⟨by rw [HJ.out]; rfl, B2.out⟩
end Go.Proofs.YtdapiibllblpbaaDoor.Code
