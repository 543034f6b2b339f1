import Derived.Test.YtdapiibllblpbaaDoorU
import Derived.Test.YtdapiibllblpbaaDoorV
import Derived.Deep.RegionHeld3
import Derived.Test.YtdapiibllblpbaaDoorRows
import Derived.Test.YtdapiibllblpbaaDoorTie
import Derived.Test.YtdapiibllblpbaaDoorCards
import Derived.WalkKit
import Derived.ProofKit
import Derived.OpenShut
import Derived.ShutString
import Derived.ChangeOld
import Derived.Below
import Derived.SizedLaws
import Derived.Lib.LaidIn
import Derived.Lib.LaidU8
import Derived.Lib.LaidTab
import Derived.Lib.TrailingZeros
import Derived.Deep.DeepHandedRow
import Derived.Deep.DeepWitnessRowRef
import Derived.SevenTiedAt
namespace Go.Proofs.YtdapiibllblpbaaDoor.Code
open Go.RowKit Go.Proofs.YtdapiibllblpbaaDoorW.PrintWords Go.Proofs.YtdapiibllblpbaaDoorW.PrintLast Go.Proofs.YtdapiibllblpbaaDoorW.PrintMore Go.Proofs.YtdapiibllblpbaaDoor.PCodeAnswers
set_option linter.unusedVariables false
set_option linter.unusedSimpArgs false

/-! ### A row of functions, stored into -/
section
variable {W : World} {b7 g n cap : Nat} {fs : List S39}
theorem own_name (h : Kd.S k39 39 W b7 (fun _ => True) (.slice (some ⟨g, 0, none⟩) n cap) fs) (i : Nat) (hi : i < n) (s : ByteArray) :
    (∃ v, W.cell? ⟨g, i * 5, none⟩ = some v) ∧ W.frozen? ⟨g, i * 5, none⟩ = false ∧
    Kd.S k39 39 (W.setCell ⟨g, i * 5, none⟩ (.string s)) b7 (fun _ => True) (.slice (some ⟨g, 0, none⟩) n cap) (fs.set i { rd_T39 fs i with f0 := s }) := by
  obtain ⟨oki, c, hcl, hM, hcc, hfr, hoki, hH⟩ := Kd.S_elem h z39 i (by omega) (by omega)
  obtain ⟨v4, hc, g4⟩ := k39_openM hM
  subst hc
  have e1 := hcc 0 _ rfl
  have e2 := hfr 0
  rw [Int.toNat_natCast] at e1 e2
  refine ⟨⟨_, e1⟩, e2, ?_⟩
  have hM2 := k39_mkM W b7 oki { rd_T39 fs i with f0 := s } (v4 := v4) g4
  have := (Kd.S_seg (okg := fun _ => False) (Kd.H_mono hH (fun k hk => ⟨hk, fun h => h⟩)) (by omega) (by omega) (seg := [.string s]) (j := 0) (by show 1 ≤ 5; omega) (x' := { rd_T39 fs i with f0 := s }) (okp := oki) hM2 (fun k hk => Or.inl hk) (fun k hk => hk.elim)).1
  rw [Int.toNat_natCast] at this
  exact this
theorem own_code (h : Kd.S k39 39 W b7 (fun _ => True) (.slice (some ⟨g, 0, none⟩) n cap) fs) (i : Nat) (hi : i < n) :
    ∃ A c, W.cell? ⟨g, i * 5 + 4, none⟩ = some (.slice A (rd_T39 fs i).f4.length c) := by
  obtain ⟨oki, c, hcl, hM, hcc, hfr, hoki, hH⟩ := Kd.S_elem h z39 i (by omega) (by omega)
  obtain ⟨v4, hc, g4⟩ := k39_openM hM
  subst hc
  have e4 := hcc 4 _ rfl
  rw [Int.toNat_natCast] at e4
  obtain ⟨A, c4, hv⟩ := Kd.R_slice g4
  subst hv
  exact ⟨A, c4, e4⟩
theorem own_at (h : Kd.S k39 39 W b7 (fun _ => True) (.slice (some ⟨g, 0, none⟩) n cap) fs) (i : Nat) (hi : i < n) (k : Nat) (hk : k < (rd_T39 fs i).f4.length) (at_ : Int) :
    ∃ gi ci, W.cell? ⟨g, i * 5 + 4, none⟩ = some (.slice (some ⟨gi, 0, none⟩) (rd_T39 fs i).f4.length ci) ∧ b7 ≤ gi ∧ gi < W.heap.size ∧ (∃ cells, W.heap[gi]? = some (.cells cells 42 (0, 0))) ∧
    (∃ v, W.cell? ⟨gi, k * 12 + 11, none⟩ = some v) ∧ W.frozen? ⟨gi, k * 12 + 11, none⟩ = false ∧
    Kd.S k39 39 (W.setCell ⟨gi, k * 12 + 11, none⟩ (.int .i64 at_)) b7 (fun _ => True) (.slice (some ⟨g, 0, none⟩) n cap) (fs.set i { rd_T39 fs i with f4 := (rd_T39 fs i).f4.set k { rd_T42 (rd_T39 fs i).f4 k with f11 := at_ } }) := by
  obtain ⟨oki, c, hcl, hM, hcc, hoki, hback⟩ := Kd.S_borrow h z39 i (by omega) (by omega)
  obtain ⟨v4, hc, g4⟩ := k39_openM hM
  subst hc
  obtain ⟨gi, ci, hv, hb, hlt, cells, hcells⟩ := Kd.R_form g4 (by show 0 < (rd_T39 fs i).f4.length; omega)
  subst hv
  have e4 := hcc 4 _ rfl
  rw [Int.toNat_natCast] at e4
  have hnk : k < (rd_T39 fs i).f4.length := hk
  obtain ⟨c2, hcl2, hM2, hcc2, hfr2⟩ := Kd.R_elem g4 z42 k (by omega) (by have : ((rd_T39 fs i).f4.length : Int) = (((fs.getD (Int.toNat i) z39).f4.length : Nat) : Int) := rfl; omega)
  obtain ⟨v8, hc2, g8⟩ := k42_openM hM2
  subst hc2
  have e11 := hcc2 11 _ rfl
  have f11 := hfr2 11
  rw [Int.toNat_natCast] at e11 f11
  rw [add_plain] at e4
  have e4 : W.cell? ⟨g, i * 5 + 4, none⟩ = some (.slice (some ⟨gi, 0, none⟩) (rd_T39 fs i).f4.length ci) := e4
  refine ⟨gi, ci, e4, hb, hlt, ⟨cells, hcells⟩, ⟨_, e11⟩, f11, ?_⟩
  have hM3 := k42_mkM W b7 (fun k => oki k ∧ k ≠ gi) { rd_T42 (rd_T39 fs i).f4 k with f11 := at_ } (v8 := v8) g8
  have hs := Kd.R_seg g4 k (by omega) (by have : ((rd_T39 fs i).f4.length : Int) = (((fs.getD (Int.toNat i) z39).f4.length : Nat) : Int) := rfl; omega) hcl2 hcc2 (seg := [.int .i64 at_]) (j := 11) (by show 12 ≤ 12; omega) (x' := { rd_T42 (rd_T39 fs i).f4 k with f11 := at_ }) (okp := fun k => oki k ∧ k ≠ gi) hM3 (fun _ h => h)
  rw [Int.toNat_natCast] at hs
  have hoki2 : ∀ q, some gi = some q → oki q := by
    rintro q hq
    cases hq
    exact g4.1 gi rfl
  refine hback hs.2 hoki2 ?_
  have := k39_mkM (W.setCell ⟨gi, k * 12 + 11, none⟩ (.int .i64 at_)) b7 oki { rd_T39 fs i with f4 := (rd_T39 fs i).f4.set k { rd_T42 (rd_T39 fs i).f4 k with f11 := at_ } } (v4 := .slice (some ⟨gi, 0, none⟩) ((rd_T39 fs i).f4.length) ci) hs.1
  exact this
end
/-! ### Places and names make no difference -/
def chO (at_ : Int) (o : S42) : S42 := { o with f11 := at_ }
def chF (at_ : Int) (s : ByteArray) (f : S39) : S39 := { f with f0 := s, f4 := f.f4.map (chO at_) }
def chM (at_ : Int) (s : ByteArray) (m : Md) : Md := { m with funcs := m.funcs.map (chF at_ s), locks := m.locks.map fun _ => s }
section
variable (at_ : Int) (s : ByteArray) (m : Md)
theorem ch_fnAt (i : Int) : (fnAt (chM at_ s m) i).f1 = (fnAt m i).f1 ∧ (fnAt (chM at_ s m) i).f3 = (fnAt m i).f3 := by
  unfold fnAt chM
  simp only [List.getD_eq_getElem?_getD, List.getElem?_map]
  cases h : m.funcs[i.toNat]? <;> simp [h, chF, z39]
theorem ch_others (regs : Int) (o : S42) : othersM (chM at_ s m) regs (chO at_ o) = othersM m regs o := by
  have h := ch_fnAt at_ s m o.f1
  have e1 : (chM at_ s m).locks.length = m.locks.length := by simp [chM]
  have e2 : (chM at_ s m).funcs.length = m.funcs.length := by simp [chM]
  unfold othersM
  simp only [chO, h.2, e1, e2]
  rfl
theorem ch_fields (regs words : Int) (o : S42) : fieldsM (chM at_ s m) regs words (chO at_ o) = fieldsM m regs words o := by
  have h := ch_others at_ s m regs o
  unfold fieldsM
  rw [h]
  rfl
theorem ch_right (f : S39) (o : S42) : rightM (chM at_ s m) (chF at_ s f) (chO at_ o) = rightM m f o := by
  have h := ch_fnAt at_ s m o.f1
  have h2 := ch_fields at_ s m f.f2 (wordsM m) o
  unfold rightM
  rw [show wordsM (chM at_ s m) = wordsM m from rfl, show (chF at_ s f).f2 = f.f2 from rfl, h2]
  have e1 : (chF at_ s f).f4.length = f.f4.length := by simp [chF]
  simp only [chO, h.1, e1]
  rfl
theorem ch_funcOk (f : S39) : funcOk (chF at_ s f) = funcOk f := by
  unfold funcOk chF
  simp
theorem ch_nope (f : S39) (o : S42) : nope (chM at_ s m) (chF at_ s f) (chO at_ o) = nope m f o := by
  unfold nope
  rw [ch_right]
theorem ch_funcR (f : S39) : funcR (chM at_ s m) (chF at_ s f) = funcR m f := by
  unfold funcR
  have h : (chF at_ s f).f4.any (nope (chM at_ s m) (chF at_ s f)) = f.f4.any (nope m f) := by
    show (f.f4.map (chO at_)).any _ = _
    rw [List.any_map]
    have hp : (nope (chM at_ s m) (chF at_ s f) ∘ chO at_) = nope m f := by
      funext o
      rw [Function.comp_apply, ch_nope]
    rw [hp]
  rw [h]
theorem ch_Right : RightM (chM at_ s m) = RightM m := by
  unfold RightM
  congr 1
  · unfold frameM
    have h1 : (chM at_ s m).funcs.all funcOk = m.funcs.all funcOk := by
      show (m.funcs.map (chF at_ s)).all funcOk = _
      rw [List.all_map]
      congr 1
      funext f
      exact ch_funcOk at_ s f
    have h2 : opsM (chM at_ s m) = opsM m := by
      unfold opsM opsF chM
      rw [List.map_map]
      congr 2
      funext f
      simp [chF]
    have h3 : (chM at_ s m).threads.any (wrongT (chM at_ s m)) = m.threads.any (wrongT m) := by
      show m.threads.any (wrongT (chM at_ s m)) = _
      congr 1
      funext t
      unfold wrongT
      rw [(ch_fnAt at_ s m t).1]
      simp [chM]
    have e1 : (chM at_ s m).locks.length = m.locks.length := by simp [chM]
    have e2 : (chM at_ s m).funcs.length = m.funcs.length := by simp [chM]
    rw [h1, h2, h3, e1, e2]
    rfl
  · show (m.funcs.map (chF at_ s)).all (funcR (chM at_ s m)) = _
    rw [List.all_map]
    congr 1
    funext f
    exact ch_funcR at_ s m f
theorem ch_rd39 (k : Nat) (hk : k < m.funcs.length) : rd_T39 (chM at_ s m).funcs k = chF at_ s (rd_T39 m.funcs k) := by
  unfold rd_T39 chM
  rw [Int.toNat_natCast, List.getD_eq_getElem?_getD, List.getD_eq_getElem?_getD, List.getElem?_map, List.getElem?_eq_getElem hk]
  rfl
theorem ch_ops (f : S39) : ∀ j, j ≤ f.f4.length → opsText (chF at_ s f) j = opsText f j
  | 0, _ => rfl
  | j + 1, h => by
    rw [opsText_next, opsText_next, ch_ops f j (by omega)]
    congr 2
    have : rd_T42 (chF at_ s f).f4 j = chO at_ (rd_T42 f.f4 j) := by
      unfold rd_T42 chF
      rw [Int.toNat_natCast, List.getD_eq_getElem?_getD, List.getD_eq_getElem?_getD, List.getElem?_map, List.getElem?_eq_getElem (by omega)]
      rfl
    rw [this]
    rfl
theorem ch_text : ∀ k, k ≤ m.funcs.length → textM (chM at_ s m) k = textM m k
  | 0, _ => rfl
  | k + 1, h => by
    rw [textM_next, textM_next, ch_text k (by omega), ch_rd39 at_ s m k (by omega)]
    congr 1
    unfold fnText
    rw [show (chF at_ s (rd_T39 m.funcs k)).f4.length = (rd_T39 m.funcs k).f4.length by simp [chF], ch_ops at_ s _ _ (Nat.le_refl _)]
    rfl
theorem ch_Show : ShowM (chM at_ s m) = ShowM m := by
  unfold ShowM
  rw [ch_Right, show (chM at_ s m).funcs.length = m.funcs.length by simp [chM], ch_text at_ s m _ (Nat.le_refl _)]
end
end Go.Proofs.YtdapiibllblpbaaDoor.Code
namespace Go.Proofs.YtdapiibllblpbaaDoor.Code
open Go.RowKit Go.Proofs.YtdapiibllblpbaaDoorW.PrintWords Go.Proofs.YtdapiibllblpbaaDoorW.PrintLast Go.Proofs.YtdapiibllblpbaaDoorW.PrintMore Go.Proofs.YtdapiibllblpbaaDoor.PCodeAnswers
set_option linter.unusedVariables false
set_option linter.unusedSimpArgs false
theorem MdN.lock {base b4 b7 nb : Nat} {w : World} {r : MdR} {m : Md} {ls : List ByteArray} {gl : Nat} (h : MdN base b4 b7 nb w r { m with locks := ls }) (hg : r.a3 = some ⟨gl, 0, none⟩) (i : Nat) (hi : i < ls.length) (s : ByteArray) :
    (∃ v, w.cell? ⟨gl, i, none⟩ = some v) ∧ w.frozen? ⟨gl, i, none⟩ = false ∧ base ≤ gl ∧ gl ≠ nb ∧ gl < b7 ∧ (∃ cells, w.heap[gl]? = some (.cells cells 9 (0, 0))) ∧
    MdN base b4 b7 nb (w.setCell ⟨gl, i, none⟩ (.string s)) r { m with locks := ls.set i s } := by
  have h3 := h.g3
  simp only at h3
  rw [hg] at h3
  obtain ⟨g, cap, e, hb, hlt, cells, hc⟩ := Kd.R_form h3 (by omega)
  obtain rfl : gl = g := by
    have := congrArg Value.ownBlock e
    simpa [Value.ownBlock] using this
  have hok := h3.1 gl rfl
  obtain ⟨c1, c2⟩ := Kd.R_cell ByteArray.empty h3 i (by omega) (by omega)
  rw [Int.toNat_natCast] at c1 c2
  refine ⟨⟨_, c1⟩, c2, hb, hok.1.1, hok.1.2, ⟨cells, hc⟩, ?_⟩
  have hput := Kd.R_putn h3 i s
  rw [Int.toNat_natCast] at hput
  refine ⟨Kd.R_set h.g0 hc (by decide) i _, Kd.R_set h.g1 hc (by decide) i _, Kd.R_set h.g2 hc (by decide) i _, ?_, ?_, ?_, ?_, Kd.R_set h.g8 hc (by decide) i _⟩
  · simp only [List.length_set]
    rw [hg]
    exact hput
  · exact Kd.R_far (p := ⟨gl, i, none⟩) h.g4 (fun k hk => by have := hk.2; have := hok.2; show k ≠ gl; omega) _
  · exact Kd.R_far (p := ⟨gl, i, none⟩) h.g5 (fun k hk => by have := hk.2; have := hok.2; show k ≠ gl; omega) _
  · exact Kd.R_far (p := ⟨gl, i, none⟩) h.g6 (fun k hk => by have := hk.2; have := hok.2; show k ≠ gl; omega) _
theorem MdN.lock_at {base b4 b7 nb : Nat} {w : World} {r : MdR} {m : Md} (h : MdN base b4 b7 nb w r m) (hp : 0 < m.locks.length) : ∃ gl, r.a3 = some ⟨gl, 0, none⟩ := by
  obtain ⟨g, cap, e, hb, hlt, cells, hc⟩ := Kd.R_form h.g3 (by omega)
  injection e with e
  exact ⟨g, e⟩
def lk (s : ByteArray) (l : List ByteArray) (i : Nat) : List ByteArray := (l.take i).map (fun _ => s) ++ l.drop i
theorem set_head {α : Type} (l l2 : List α) (x y : α) (i : Nat) (h : l.length = i) : (l ++ x :: l2).set i y = l ++ y :: l2 := by
  subst h
  rw [List.set_append_right _ _ (Nat.le_refl _), Nat.sub_self]
  rfl
def part (at_ : Int) (s : ByteArray) (l : List S39) (i : Nat) : List S39 := (l.take i).map (chF at_ s) ++ l.drop i
def mid (at_ : Int) (s : ByteArray) (f : S39) (k : Nat) : S39 := { f with f0 := s, f4 := (f.f4.take k).map (chO at_) ++ f.f4.drop k }
section
variable (at_ : Int) (s : ByteArray) (l : List S39)
theorem part_length (i : Nat) (hi : i ≤ l.length) : (part at_ s l i).length = l.length := by
  unfold part
  rw [List.length_append, List.length_map, List.length_take, List.length_drop]
  omega
theorem drop39 (i : Nat) (hi : i < l.length) : l.drop i = rd_T39 l i :: l.drop (i + 1) := by
  rw [List.drop_eq_getElem_cons hi]
  congr 1
  unfold rd_T39
  rw [Int.toNat_natCast, List.getD_eq_getElem?_getD, List.getElem?_eq_getElem hi]
  rfl
theorem drop42 (l : List S42) (i : Nat) (hi : i < l.length) : l.drop i = rd_T42 l i :: l.drop (i + 1) := by
  rw [List.drop_eq_getElem_cons hi]
  congr 1
  unfold rd_T42
  rw [Int.toNat_natCast, List.getD_eq_getElem?_getD, List.getElem?_eq_getElem hi]
  rfl
theorem part_set (i : Nat) (hi : i < l.length) (x : S39) : (part at_ s l i).set i x = (l.take i).map (chF at_ s) ++ x :: l.drop (i + 1) := by
  unfold part
  rw [drop39 l i hi, set_head _ _ _ _ i (by rw [List.length_map, List.length_take]; omega)]
theorem set_set39 (i : Nat) (hi : i < l.length) (x y : S39) : ((part at_ s l i).set i x).set i y = (part at_ s l i).set i y := by
  rw [List.set_set]
theorem rd_part (i : Nat) (hi : i < l.length) : rd_T39 (part at_ s l i) i = rd_T39 l i := by
  unfold part
  rw [drop39 l i hi]
  unfold rd_T39
  rw [Int.toNat_natCast, List.getD_eq_getElem?_getD, List.getElem?_append_right (by rw [List.length_map, List.length_take]; omega), List.length_map, List.length_take, Nat.min_eq_left (by omega), Nat.sub_self]
  rfl
theorem rd_set (i : Nat) (hi : i < l.length) (x : S39) : rd_T39 ((part at_ s l i).set i x) i = x := by
  rw [part_set at_ s l i hi]
  unfold rd_T39
  rw [Int.toNat_natCast, List.getD_eq_getElem?_getD, List.getElem?_append_right (by rw [List.length_map, List.length_take]; omega), List.length_map, List.length_take, Nat.min_eq_left (by omega), Nat.sub_self]
  rfl
theorem mid_length (f : S39) (k : Nat) (hk : k ≤ f.f4.length) : (mid at_ s f k).f4.length = f.f4.length := by
  show ((f.f4.take k).map (chO at_) ++ f.f4.drop k).length = _
  rw [List.length_append, List.length_map, List.length_take, List.length_drop]
  omega
theorem mid_next (f : S39) (k : Nat) (hk : k < f.f4.length) : { mid at_ s f k with f4 := (mid at_ s f k).f4.set k { rd_T42 (mid at_ s f k).f4 k with f11 := at_ } } = mid at_ s f (k + 1) := by
  have h1 : rd_T42 (mid at_ s f k).f4 k = rd_T42 f.f4 k := by
    show rd_T42 ((f.f4.take k).map (chO at_) ++ f.f4.drop k) k = _
    rw [drop42 f.f4 k hk]
    unfold rd_T42
    rw [Int.toNat_natCast, List.getD_eq_getElem?_getD, List.getElem?_append_right (by rw [List.length_map, List.length_take]; omega), List.length_map, List.length_take, Nat.min_eq_left (by omega), Nat.sub_self]
    rfl
  rw [h1]
  have h2 : (mid at_ s f k).f4.set k { rd_T42 f.f4 k with f11 := at_ } = (mid at_ s f (k + 1)).f4 := by
    show ((f.f4.take k).map (chO at_) ++ f.f4.drop k).set k _ = (f.f4.take (k + 1)).map (chO at_) ++ f.f4.drop (k + 1)
    rw [drop42 f.f4 k hk, set_head _ _ _ _ k (by rw [List.length_map, List.length_take]; omega), List.take_succ_eq_append_getElem hk, List.map_append, List.append_assoc]
    congr 1
    show _ :: _ = _ :: _
    congr 1
    unfold rd_T42
    rw [Int.toNat_natCast, List.getD_eq_getElem?_getD, List.getElem?_eq_getElem hk]
    rfl
  rw [h2]
  rfl
theorem mid_all (f : S39) : mid at_ s f f.f4.length = chF at_ s f := by
  unfold mid chF
  rw [List.take_length, List.drop_length, List.append_nil]
theorem mid_none (f : S39) : mid at_ s f 0 = { f with f0 := s } := by
  unfold mid
  simp
theorem part_next (i : Nat) (hi : i < l.length) : (part at_ s l i).set i (mid at_ s (rd_T39 l i) (rd_T39 l i).f4.length) = part at_ s l (i + 1) := by
  rw [part_set at_ s l i hi, mid_all]
  unfold part
  rw [take39 l i hi, List.map_append, List.append_assoc]
  rfl
theorem lk_length (l : List ByteArray) (i : Nat) (hi : i ≤ l.length) : (lk s l i).length = l.length := by
  unfold lk
  rw [List.length_append, List.length_map, List.length_take, List.length_drop]
  omega
theorem lk_none (l : List ByteArray) : lk s l 0 = l := by
  unfold lk
  simp
theorem lk_all (l : List ByteArray) : lk s l l.length = l.map fun _ => s := by
  unfold lk
  rw [List.take_length, List.drop_length, List.append_nil]
theorem lk_next (l : List ByteArray) (i : Nat) (hi : i < l.length) : (lk s l i).set i s = lk s l (i + 1) := by
  unfold lk
  rw [List.drop_eq_getElem_cons hi, set_head _ _ _ _ i (by rw [List.length_map, List.length_take]; omega), List.take_succ_eq_append_getElem hi, List.map_append, List.append_assoc]
  rfl
theorem part_all : part at_ s l l.length = l.map (chF at_ s) := by
  unfold part
  rw [List.take_length, List.drop_length, List.append_nil]
end
theorem MdN.below {base b4 b7 nb : Nat} {w w1 : World} {r : MdR} {m : Md} (h : MdN base b4 b7 nb w r m) (b : Below w.heap.size w w1) : MdN base b4 b7 nb w1 r m :=
  ⟨Kd.R_below h.g0 b, Kd.R_below h.g1 b, Kd.R_below h.g2 b, Kd.R_below h.g3 b, Kd.R_below h.g4 b, Kd.R_below h.g5 b, Kd.R_below h.g6 b, Kd.R_below h.g8 b⟩
theorem typed_ne {w : World} {a b : Nat} {cs cs' : Array Value} {t t' : TypeId} (h1 : w.heap[a]? = some (.cells cs t (0, 0))) (h2 : w.heap[b]? = some (.cells cs' t' (0, 0))) (ht : t ≠ t') : a ≠ b := by
  rintro rfl
  rw [h1] at h2
  cases h2
  exact ht rfl
theorem ch_S (at_ : Int) (s : ByteArray) (m : Md) (h : MdS m) : MdS (chM at_ s m) :=
  ⟨h.l0, h.l1, h.l2, by have := h.l3; simpa [chM] using this, h.l4, h.l5, h.l6, by have := h.l7; simpa [chM] using this, h.l8⟩
theorem ch_Z (at_ : Int) (s : ByteArray) (m : Md) (h : MdZ m) : MdZ (chM at_ s m) := by
  intro f hf o ho
  obtain ⟨f0, hf0, rfl⟩ := List.mem_map.1 hf
  obtain ⟨o0, ho0, rfl⟩ := List.mem_map.1 ho
  exact h f0 hf0 o0 ho0
theorem ch_I (at_ : Int) (s : ByteArray) (m : Md) (h : MdI m) : MdI (chM at_ s m) := by
  intro f hf o ho
  obtain ⟨f0, hf0, rfl⟩ := List.mem_map.1 hf
  obtain ⟨o0, ho0, rfl⟩ := List.mem_map.1 ho
  exact h f0 hf0 o0 ho0
theorem mdW_ch (r : MdR) (at_ : Int) (s : ByteArray) (m : Md) : mdW r (chM at_ s m) = mdW r m := by
  unfold mdW
  simp [chM]
set_option maxRecDepth 100000 in
set_option maxHeartbeats 20000000 in
theorem places_any (m : Md) (r : MdR) (at_ : Int) (nm : ByteArray) (w : World) (hm : MdC w r m) (hk : MdK r m) (hL : MdL m) (hi : MdI m) (ht : Pow10 w) (hn : nm.size ≤ 140737488351232) :
    Calls Tryd.prog 6 #[.agg (mdW r m).toArray, .int .i64 at_, .string nm] w fun e w' => e = .returned (.bool true) ∧ Below w.heap.size w w' := by
  have HNM := Aside0.mk hn
  clear hn
  have hb := below_alloc (Below.refl w.heap.size w) (.cells (mdW r m).toArray 27)
  have HB0 := Aside0.mk hb
  have hn := blk_new w (.cells (mdW r m).toArray 27)
  have HN0 := Aside0.mk hn
  have HM0 := Aside0.mk (hm.below hb)
  have HT0 := Aside0.mk (ht.below hb)
  have HK := Aside0.mk hk
  have HL := Aside0.mk hL
  have HI := Aside0.mk hi
  clear hm ht hk hL hi
  obtain ⟨w0, hw0⟩ : ∃ w0, w.alloc (.cells (mdW r m).toArray 27) = w0 := ⟨_, rfl⟩
  rw [hw0] at HB0 hn HM0 HN0 HT0
  have CA := Aside0.mk (alive_any w0 HT0.out)
  clear hb hn
  go_enter Tryd.func6, Tryd.ntmps6
  go_wp2_with fail
  refine CA.out.mono ?_
  rintro e w1 ⟨rfl, b⟩
  have HB1 := Aside0.mk (below_then HB0.out HB0.out.size b)
  have HN1 := blk_below HN0.out b
  have HM1 := Aside0.mk (HM0.out.below b)
  have HT1 := Aside0.mk (HT0.out.below b)
  have g0 : w1.cell? ⟨w.heap.size, 0, none⟩ = some (.slice r.a0 m.globals.length r.c0) := (blk_cell HN1 0).trans rfl
  have g1 : w1.cell? ⟨w.heap.size, 1, none⟩ = some (.slice r.a1 m.structs.length r.c1) := (blk_cell HN1 1).trans rfl
  have g2 : w1.cell? ⟨w.heap.size, 2, none⟩ = some (.slice r.a2 m.chans.length r.c2) := (blk_cell HN1 2).trans rfl
  have g3 : w1.cell? ⟨w.heap.size, 3, none⟩ = some (.slice r.a3 m.locks.length r.c3) := (blk_cell HN1 3).trans rfl
  have g4 : w1.cell? ⟨w.heap.size, 4, none⟩ = some (.slice r.a4 m.inputs.length r.c4) := (blk_cell HN1 4).trans rfl
  have g5 : w1.cell? ⟨w.heap.size, 5, none⟩ = some (.slice r.a5 m.sinks.length r.c5) := (blk_cell HN1 5).trans rfl
  have g6 : w1.cell? ⟨w.heap.size, 6, none⟩ = some (.slice r.a6 m.hatches.length r.c6) := (blk_cell HN1 6).trans rfl
  have g7 : w1.cell? ⟨w.heap.size, 7, none⟩ = some (.slice r.a7 m.funcs.length r.c7) := (blk_cell HN1 7).trans rfl
  have g8 : w1.cell? ⟨w.heap.size, 8, none⟩ = some (.slice r.a8 m.threads.length r.c8) := (blk_cell HN1 8).trans rfl
  have HN1 := Aside0.mk HN1
  have CW := Aside0.mk (weigh_any m r w1 HM1.out HK.out HL.out 20000 (by omega))
  clear b CA hw0
  go_wp2_with fail
  refine CW.out.mono ?_
  rintro e w2 ⟨⟨n, rfl, hle⟩, b⟩
  have HB2 := Aside0.mk (below_then HB1.out HB1.out.size b)
  have HN2 := blk_below HN1.out b
  have HM2 := Aside0.mk (HM1.out.below b)
  have HT2 := Aside0.mk (HT1.out.below b)
  clear b CW g0 g1 g2 g3 g4 g5 g6 g7 g8
  by_cases hbig : n > 20000
  · go_wp2_with fail
    go_ret
    exact ⟨rfl, HB2.out⟩
  have hnb : n ≤ 20000 := by omega
  obtain ⟨hS, hZ, hF⟩ := hle hnb
  have HS := Aside0.mk hS
  have HZ := Aside0.mk hZ
  have HF := Aside0.mk hF
  clear hle hS hZ hF
  by_cases hnm : (nm.size : Int) > 100
  · go_wp2_with fail
    go_ret
    exact ⟨rfl, HB2.out⟩
  have g0 : w2.cell? ⟨w.heap.size, 0, none⟩ = some (.slice r.a0 m.globals.length r.c0) := (blk_cell HN2 0).trans rfl
  have g1 : w2.cell? ⟨w.heap.size, 1, none⟩ = some (.slice r.a1 m.structs.length r.c1) := (blk_cell HN2 1).trans rfl
  have g2 : w2.cell? ⟨w.heap.size, 2, none⟩ = some (.slice r.a2 m.chans.length r.c2) := (blk_cell HN2 2).trans rfl
  have g3 : w2.cell? ⟨w.heap.size, 3, none⟩ = some (.slice r.a3 m.locks.length r.c3) := (blk_cell HN2 3).trans rfl
  have g4 : w2.cell? ⟨w.heap.size, 4, none⟩ = some (.slice r.a4 m.inputs.length r.c4) := (blk_cell HN2 4).trans rfl
  have g5 : w2.cell? ⟨w.heap.size, 5, none⟩ = some (.slice r.a5 m.sinks.length r.c5) := (blk_cell HN2 5).trans rfl
  have g6 : w2.cell? ⟨w.heap.size, 6, none⟩ = some (.slice r.a6 m.hatches.length r.c6) := (blk_cell HN2 6).trans rfl
  have g7 : w2.cell? ⟨w.heap.size, 7, none⟩ = some (.slice r.a7 m.funcs.length r.c7) := (blk_cell HN2 7).trans rfl
  have g8 : w2.cell? ⟨w.heap.size, 8, none⟩ = some (.slice r.a8 m.threads.length r.c8) := (blk_cell HN2 8).trans rfl
  have HN2 := Aside0.mk HN2
  have hw2 : w.heap.size < w2.heap.size := blk_lt HN2.out
  have CC := Aside0.mk (Copy_any m r w2 HM2.out HK.out HS.out HZ.out HF.out)
  go_wp2_with fail
  refine CC.out.mono ?_
  rintro e w3 ⟨r', rfl, ho, b⟩
  have hs23 := b.size
  obtain ⟨w4, hw4⟩ : ∃ w4, w3.alloc (.cells (mdW r' m).toArray 27) = w4 := ⟨_, rfl⟩
  have b4 : Below w3.heap.size w3 w4 := by rw [← hw4]; exact below_alloc (Below.refl _ _) _
  have HNN : Aside0 (w4.heap[w3.heap.size]? = some (.cells (mdW r' m).toArray 27 (0, 0))) := ⟨by rw [← hw4]; exact blk_new w3 _⟩
  have HB24 : Aside0 (Below w2.heap.size w2 w4) := ⟨below_then b b.size b4⟩
  obtain ⟨b4n, b7, nb, hN, hS7, hbb⟩ := ho.n
  have HMN4 : Aside0 (MdN (w2.heap.size + 2) b4n b7 nb w4 r' m) := ⟨hN.below b4⟩
  have HS4 : Aside0 (Kd.S k39 39 w4 b7 (fun _ => True) (.slice r'.a7 m.funcs.length r'.c7) (part at_ nm m.funcs 0)) := ⟨Kd.S_below hS7 b4⟩
  clear b ho CC hN hS7 b4 g0 g1 g2 g3 g4 g5 g6 g7 g8
  go_wp2_with (refine wpList_store_row rfl 27 (.tmp 7) (.tmp 26) rfl w3.heap.size (mdW r' m).toArray rfl rfl 27 _ (blk_new w3 _) (by kernel_rfl) rfl (by simp [mdW]; exact ⟨rfl, rfl, rfl, rfl, rfl, rfl, rfl, rfl, rfl⟩) ?_; rw [World.setRow_alloc_new, hw4])
  clear hw4
  have hl7 := HS.out.l7
  have hl3 := HS.out.l3
  go_loopw [8] (fun i wr => ∃ k : Nat, i = .int .i64 k ∧ k ≤ m.funcs.length ∧ Aside0 (Kd.S k39 39 wr b7 (fun _ => True) (.slice r'.a7 m.funcs.length r'.c7) (part at_ nm m.funcs k)) ∧ Aside0 (MdN (w2.heap.size + 2) b4n b7 nb wr r' m) ∧ Aside0 (wr.heap[w3.heap.size]? = some (.cells (mdW r' m).toArray 27 (0, 0))) ∧ Aside0 (Below w2.heap.size w2 wr)) (fun i _ => m.funcs.length - (intOf i).toNat)
  case atStart => exact ⟨0, rfl, Nat.zero_le _, HS4, HMN4, HNN, HB24⟩
  case round =>
    obtain ⟨i, rfl, hi, HSi, HMi, HNi, HBi⟩ := hrel
    obtain ⟨wi, rfl⟩ : ∃ wi : World, wi = wr := ⟨_, rfl⟩
    by_cases hlt : i < m.funcs.length
    · have hpl := part_length at_ nm m.funcs i hi
      obtain ⟨g, cap, e, hg, hgl, cells, hgc⟩ := Kd.S_form HSi.out (by omega)
      have e7 : r'.a7 = some ⟨g, 0, none⟩ := by injection e
      have HSg : Aside0 (Kd.S k39 39 wi b7 (fun _ => True) (.slice (some ⟨g, 0, none⟩) m.funcs.length r'.c7) (part at_ nm m.funcs i)) := ⟨e7 ▸ HSi.out⟩
      have E7 := Aside0.mk e7
      have hne := typed_ne HNi.out hgc (by decide)
      have n7 : wi.cell? ⟨w3.heap.size, 7, none⟩ = some (.slice (some ⟨g, 0, none⟩) m.funcs.length r'.c7) := by rw [← e7]; exact (blk_cell HNi.out 7).trans rfl
      obtain ⟨⟨v0, c0⟩, f0, S5⟩ := own_name HSg.out i hlt nm
      rw [rd_part at_ nm m.funcs i hlt, ← mid_none at_ nm (rd_T39 m.funcs i)] at S5
      have hgw : w2.heap.size + 2 ≤ g := by omega
      obtain ⟨w5, hw5⟩ : ∃ w5, wi.setCell ⟨g, i * 5, none⟩ (.string nm) = w5 := ⟨_, rfl⟩
      have M5 : Aside0 (MdN (w2.heap.size + 2) b4n b7 nb w5 r' m) := ⟨by rw [← hw5]; exact HMi.out.step (fun k _ h1 _ => Below.heap_setCell _ _ _ _ (by show k ≠ g; omega))⟩
      have N5 : Aside0 (w5.heap[w3.heap.size]? = some (.cells (mdW r' m).toArray 27 (0, 0))) := ⟨by rw [← hw5]; exact (Below.heap_setCell _ _ _ _ hne).trans HNi.out⟩
      have B5 : Aside0 (Below w2.heap.size w2 w5) := ⟨by rw [← hw5]; exact HBi.out.setCell (p := ⟨g, i * 5, none⟩) (by show w2.heap.size ≤ g; omega) _⟩
      rw [hw5] at S5
      have hfl := HF.out _ (rd39_mem _ _ hlt)
      obtain ⟨f, hf⟩ : ∃ f, rd_T39 m.funcs i = f := ⟨_, rfl⟩
      rw [hf] at S5 hfl
      have HF0 := Aside0.mk hf
      have S5 := Aside0.mk S5
      have n7b : w5.cell? ⟨w3.heap.size, 7, none⟩ = some (.slice (some ⟨g, 0, none⟩) m.funcs.length r'.c7) := by rw [← e7]; exact (blk_cell N5.out 7).trans rfl
      clear hf e e7 hgc HSg
      go_wp2_with fail
      go_loopw [9] (fun x wr => ∃ k : Nat, x = .int .i64 k ∧ k ≤ f.f4.length ∧ Aside0 (Kd.S k39 39 wr b7 (fun _ => True) (.slice (some ⟨g, 0, none⟩) m.funcs.length r'.c7) ((part at_ nm m.funcs i).set i (mid at_ nm f k))) ∧ Aside0 (MdN (w2.heap.size + 2) b4n b7 nb wr r' m) ∧ Aside0 (wr.heap[w3.heap.size]? = some (.cells (mdW r' m).toArray 27 (0, 0))) ∧ Aside0 (Below w2.heap.size w2 wr)) (fun x _ => f.f4.length - (intOf x).toNat)
      case atStart => exact ⟨0, rfl, Nat.zero_le _, S5, M5, N5, B5⟩
      case round =>
        obtain ⟨k, rfl, hk, SI, MI, NI, BI⟩ := hrel
        obtain ⟨wk, rfl⟩ : ∃ wk : World, wk = wr := ⟨_, rfl⟩
        have hml := mid_length at_ nm f k hk
        have hrd := rd_set at_ nm m.funcs i hlt (mid at_ nm f k)
        have k7 : wk.cell? ⟨w3.heap.size, 7, none⟩ = some (.slice (some ⟨g, 0, none⟩) m.funcs.length r'.c7) := by rw [← E7.out]; exact (blk_cell NI.out 7).trans rfl
        by_cases hkl : k < f.f4.length
        · obtain ⟨gi, ci, e4, hb7, hgi, ⟨cells2, hcells⟩, ⟨v11, c11⟩, f11, S6⟩ := own_at SI.out i hlt k (by rw [hrd, hml]; exact hkl) at_
          rw [hrd] at e4 S6
          rw [hml] at e4
          rw [mid_next at_ nm f k hkl, List.set_set] at S6
          have hnn := typed_ne NI.out hcells (by decide)
          obtain ⟨w6, hw6⟩ : ∃ w6, wk.setCell ⟨gi, k * 12 + 11, none⟩ (.int .i64 at_) = w6 := ⟨_, rfl⟩
          have M6 : Aside0 (MdN (w2.heap.size + 2) b4n b7 nb w6 r' m) := ⟨by rw [← hw6]; exact MI.out.step (fun j _ h1 _ => Below.heap_setCell _ _ _ _ (by show j ≠ gi; omega))⟩
          have N6 : Aside0 (w6.heap[w3.heap.size]? = some (.cells (mdW r' m).toArray 27 (0, 0))) := ⟨by rw [← hw6]; exact (Below.heap_setCell _ _ _ _ hnn).trans NI.out⟩
          have B6 : Aside0 (Below w2.heap.size w2 w6) := ⟨by rw [← hw6]; exact BI.out.setCell (p := ⟨gi, k * 12 + 11, none⟩) (by show w2.heap.size ≤ gi; omega) _⟩
          rw [hw6] at S6
          have S6 := Aside0.mk S6
          clear hcells hml hrd
          go_wp2_with fail
          go_roundw
          case rel => exact ⟨k + 1, by go_num, hkl, S6, M6, N6, B6⟩
          case measure => simp [intOf]; omega
        · obtain ⟨A4, c4, e4⟩ := own_code SI.out i hlt
          rw [hrd, hml] at e4
          have hkk : k = f.f4.length := by omega
          have SI2 := SI.out
          rw [hkk, ← HF0.out, part_next at_ nm m.funcs i hlt, ← E7.out] at SI2
          have SI2 := Aside0.mk SI2
          clear hml hrd
          go_wp2_with fail
          go_roundw
          case rel => exact ⟨i + 1, by go_num, hlt, SI2, MI, NI, BI⟩
          case measure => simp [intOf]; omega
    · have hie : i = m.funcs.length := by omega
      have HS8 := HSi.out
      rw [hie, part_all] at HS8
      have HS8 := Aside0.mk HS8
      have q7 : wi.cell? ⟨w3.heap.size, 7, none⟩ = some (.slice r'.a7 m.funcs.length r'.c7) := (blk_cell HNi.out 7).trans rfl
      go_wp2_with fail
      clear q7
      go_loopw [10] (fun x wr => ∃ k : Nat, x = .int .i64 k ∧ k ≤ m.locks.length ∧ Aside0 (Kd.S k39 39 wr b7 (fun _ => True) (.slice r'.a7 m.funcs.length r'.c7) (m.funcs.map (chF at_ nm))) ∧ Aside0 (MdN (w2.heap.size + 2) b4n b7 nb wr r' { m with locks := lk nm m.locks k }) ∧ Aside0 (wr.heap[w3.heap.size]? = some (.cells (mdW r' m).toArray 27 (0, 0))) ∧ Aside0 (Below w2.heap.size w2 wr)) (fun x _ => m.locks.length - (intOf x).toNat)
      case atStart => exact ⟨0, rfl, Nat.zero_le _, HS8, ⟨by rw [lk_none]; exact HMi.out⟩, HNi, HBi⟩
      case round =>
        obtain ⟨k, rfl, hk, SI, MI, NI, BI⟩ := hrel
        obtain ⟨wk, rfl⟩ : ∃ wk : World, wk = wr := ⟨_, rfl⟩
        have k3 : wk.cell? ⟨w3.heap.size, 3, none⟩ = some (.slice r'.a3 m.locks.length r'.c3) := (blk_cell NI.out 3).trans rfl
        by_cases hkl : k < m.locks.length
        · obtain ⟨gl, e3⟩ := MI.out.lock_at (by show 0 < (lk nm m.locks k).length; rw [lk_length _ _ _ hk]; omega)
          obtain ⟨⟨vl, cl⟩, fl, hgb, hgn, hg7, ⟨cells2, hcells⟩, M6⟩ := MI.out.lock e3 k (by rw [lk_length _ _ _ hk]; exact hkl) nm
          rw [lk_next nm m.locks k hkl] at M6
          rw [e3] at k3
          have hnn := typed_ne NI.out hcells (by decide)
          obtain ⟨w6, hw6⟩ : ∃ w6, wk.setCell ⟨gl, k, none⟩ (.string nm) = w6 := ⟨_, rfl⟩
          rw [hw6] at M6
          have M6 := Aside0.mk M6
          have N6 : Aside0 (w6.heap[w3.heap.size]? = some (.cells (mdW r' m).toArray 27 (0, 0))) := ⟨by rw [← hw6]; exact (Below.heap_setCell _ _ _ _ hnn).trans NI.out⟩
          have B6 : Aside0 (Below w2.heap.size w2 w6) := ⟨by rw [← hw6]; exact BI.out.setCell (p := ⟨gl, k, none⟩) (by show w2.heap.size ≤ gl; omega) _⟩
          have S6 : Aside0 (Kd.S k39 39 w6 b7 (fun _ => True) (.slice r'.a7 m.funcs.length r'.c7) (m.funcs.map (chF at_ nm))) := ⟨by rw [← hw6]; exact Kd.S_set SI.out hcells (by decide) k _⟩
          clear hcells
          go_wp2_with fail
          go_roundw
          case rel => exact ⟨k + 1, by go_num, hkl, S6, M6, N6, B6⟩
          case measure => simp [intOf]; omega
        · have hkk : k = m.locks.length := by omega
          have MI2 := MI.out
          rw [hkk, lk_all] at MI2
          have MO : Aside0 (MdO (w2.heap.size + 2) wk r' (chM at_ nm m)) := ⟨⟨b4n, b7, nb, ⟨MI2.g0, MI2.g1, MI2.g2, MI2.g3, MI2.g4, MI2.g5, MI2.g6, MI2.g8⟩, (by have := SI.out; rw [← List.length_map (f := chF at_ nm)] at this; exact this), hbb⟩⟩
          have HNk := blk_below HN2.out BI.out
          have HMk := Aside0.mk (HM2.out.below BI.out)
          have HTk := Aside0.mk (HT2.out.below BI.out)
          have HBk := Aside0.mk (below_then HB2.out HB2.out.size BI.out)
          clear MI2 MI SI
          have g0 : wk.cell? ⟨w.heap.size, 0, none⟩ = some (.slice r.a0 m.globals.length r.c0) := (blk_cell HNk 0).trans rfl
          have g1 : wk.cell? ⟨w.heap.size, 1, none⟩ = some (.slice r.a1 m.structs.length r.c1) := (blk_cell HNk 1).trans rfl
          have g2 : wk.cell? ⟨w.heap.size, 2, none⟩ = some (.slice r.a2 m.chans.length r.c2) := (blk_cell HNk 2).trans rfl
          have g3 : wk.cell? ⟨w.heap.size, 3, none⟩ = some (.slice r.a3 m.locks.length r.c3) := (blk_cell HNk 3).trans rfl
          have g4 : wk.cell? ⟨w.heap.size, 4, none⟩ = some (.slice r.a4 m.inputs.length r.c4) := (blk_cell HNk 4).trans rfl
          have g5 : wk.cell? ⟨w.heap.size, 5, none⟩ = some (.slice r.a5 m.sinks.length r.c5) := (blk_cell HNk 5).trans rfl
          have g6 : wk.cell? ⟨w.heap.size, 6, none⟩ = some (.slice r.a6 m.hatches.length r.c6) := (blk_cell HNk 6).trans rfl
          have g7 : wk.cell? ⟨w.heap.size, 7, none⟩ = some (.slice r.a7 m.funcs.length r.c7) := (blk_cell HNk 7).trans rfl
          have g8 : wk.cell? ⟨w.heap.size, 8, none⟩ = some (.slice r.a8 m.threads.length r.c8) := (blk_cell HNk 8).trans rfl
          have HNk := Aside0.mk HNk
          have CC := Aside0.mk (Copy_any m r wk HMk.out HK.out HS.out HZ.out HF.out)
          go_wp2_with fail
          refine CC.out.mono ?_
          rintro e wc ⟨rc, rfl, ho, b⟩
          obtain ⟨hCc, -⟩ := ho.reads
          have HMC := Aside0.mk ((MO.out.reads).1.below b)
          have NC : Aside0 (wc.heap[w3.heap.size]? = some (.cells (mdW r' m).toArray 27 (0, 0))) := ⟨blk_below NI.out b⟩
          have HNc := Aside0.mk (blk_below HNk.out b)
          have HMc := Aside0.mk (HMk.out.below b)
          have HTc := Aside0.mk (HTk.out.below b)
          have HBc := Aside0.mk (below_then HBk.out HBk.out.size b)
          obtain ⟨tx, htx⟩ : ∃ t : ByteArray, (⟨(ShowM m).1.toArray⟩ : ByteArray) = t := ⟨_, rfl⟩
          obtain ⟨te, hte⟩ : ∃ t, (ShowM m).2 = t := ⟨_, rfl⟩
          have HTX := Aside0.mk htx
          have HTE := Aside0.mk hte
          clear htx hte
          have CS : Aside0 (Calls Tryd.prog 18 #[.agg (mdW rc m).toArray] wc fun e w' => e = .returned (.tuple #[.string tx, .int .i64 te]) ∧ Below wc.heap.size wc w') := ⟨by
            have := Show_any m rc wc hCc HS.out HZ.out HI.out HTc.out
            rwa [HTX.out, HTE.out] at this⟩
          clear b ho hCc CC g0 g1 g2 g3 g4 g5 g6 g7 g8
          go_wp2_with fail
          refine CS.out.mono ?_
          rintro e ws ⟨rfl, b⟩
          have HMD := Aside0.mk (HMC.out.below b)
          have HNs := Aside0.mk (blk_below HNc.out b)
          have HMs := Aside0.mk (HMc.out.below b)
          have HTs := Aside0.mk (HTc.out.below b)
          have HBs := Aside0.mk (below_then HBc.out HBc.out.size b)
          have ND := blk_below NC.out b
          have CS2 : Aside0 (Calls Tryd.prog 18 #[.agg (mdW r' m).toArray] ws fun e w' => e = .returned (.tuple #[.string tx, .int .i64 te]) ∧ Below ws.heap.size ws w') := ⟨by
            have := Show_any (chM at_ nm m) r' ws HMD.out (ch_S at_ nm m HS.out) (ch_Z at_ nm m HZ.out) (ch_I at_ nm m HI.out) HTs.out
            rwa [mdW_ch, ch_Show, HTX.out, HTE.out] at this⟩
          clear b CS
          have g0 : ws.cell? ⟨w3.heap.size, 0, none⟩ = some (.slice r'.a0 m.globals.length r'.c0) := (blk_cell ND 0).trans rfl
          have g1 : ws.cell? ⟨w3.heap.size, 1, none⟩ = some (.slice r'.a1 m.structs.length r'.c1) := (blk_cell ND 1).trans rfl
          have g2 : ws.cell? ⟨w3.heap.size, 2, none⟩ = some (.slice r'.a2 m.chans.length r'.c2) := (blk_cell ND 2).trans rfl
          have g3 : ws.cell? ⟨w3.heap.size, 3, none⟩ = some (.slice r'.a3 m.locks.length r'.c3) := (blk_cell ND 3).trans rfl
          have g4 : ws.cell? ⟨w3.heap.size, 4, none⟩ = some (.slice r'.a4 m.inputs.length r'.c4) := (blk_cell ND 4).trans rfl
          have g5 : ws.cell? ⟨w3.heap.size, 5, none⟩ = some (.slice r'.a5 m.sinks.length r'.c5) := (blk_cell ND 5).trans rfl
          have g6 : ws.cell? ⟨w3.heap.size, 6, none⟩ = some (.slice r'.a6 m.hatches.length r'.c6) := (blk_cell ND 6).trans rfl
          have g7 : ws.cell? ⟨w3.heap.size, 7, none⟩ = some (.slice r'.a7 m.funcs.length r'.c7) := (blk_cell ND 7).trans rfl
          have g8 : ws.cell? ⟨w3.heap.size, 8, none⟩ = some (.slice r'.a8 m.threads.length r'.c8) := (blk_cell ND 8).trans rfl
          have ND := Aside0.mk ND
          go_wp2_with fail
          refine CS2.out.mono ?_
          rintro e wt ⟨rfl, b⟩
          have HME := Aside0.mk (HMD.out.below b)
          have HNt := blk_below HNs.out b
          have HMt := Aside0.mk (HMs.out.below b)
          have HBt := Aside0.mk (below_then HBs.out HBs.out.size b)
          have NE := blk_below ND.out b
          clear b CS2 g0 g1 g2 g3 g4 g5 g6 g7 g8
          have g0 : wt.cell? ⟨w.heap.size, 0, none⟩ = some (.slice r.a0 m.globals.length r.c0) := (blk_cell HNt 0).trans rfl
          have g1 : wt.cell? ⟨w.heap.size, 1, none⟩ = some (.slice r.a1 m.structs.length r.c1) := (blk_cell HNt 1).trans rfl
          have g2 : wt.cell? ⟨w.heap.size, 2, none⟩ = some (.slice r.a2 m.chans.length r.c2) := (blk_cell HNt 2).trans rfl
          have g3 : wt.cell? ⟨w.heap.size, 3, none⟩ = some (.slice r.a3 m.locks.length r.c3) := (blk_cell HNt 3).trans rfl
          have g4 : wt.cell? ⟨w.heap.size, 4, none⟩ = some (.slice r.a4 m.inputs.length r.c4) := (blk_cell HNt 4).trans rfl
          have g5 : wt.cell? ⟨w.heap.size, 5, none⟩ = some (.slice r.a5 m.sinks.length r.c5) := (blk_cell HNt 5).trans rfl
          have g6 : wt.cell? ⟨w.heap.size, 6, none⟩ = some (.slice r.a6 m.hatches.length r.c6) := (blk_cell HNt 6).trans rfl
          have g7 : wt.cell? ⟨w.heap.size, 7, none⟩ = some (.slice r.a7 m.funcs.length r.c7) := (blk_cell HNt 7).trans rfl
          have g8 : wt.cell? ⟨w.heap.size, 8, none⟩ = some (.slice r.a8 m.threads.length r.c8) := (blk_cell HNt 8).trans rfl
          have n0 : wt.cell? ⟨w3.heap.size, 0, none⟩ = some (.slice r'.a0 m.globals.length r'.c0) := (blk_cell NE 0).trans rfl
          have n1 : wt.cell? ⟨w3.heap.size, 1, none⟩ = some (.slice r'.a1 m.structs.length r'.c1) := (blk_cell NE 1).trans rfl
          have n2 : wt.cell? ⟨w3.heap.size, 2, none⟩ = some (.slice r'.a2 m.chans.length r'.c2) := (blk_cell NE 2).trans rfl
          have n3 : wt.cell? ⟨w3.heap.size, 3, none⟩ = some (.slice r'.a3 m.locks.length r'.c3) := (blk_cell NE 3).trans rfl
          have n4 : wt.cell? ⟨w3.heap.size, 4, none⟩ = some (.slice r'.a4 m.inputs.length r'.c4) := (blk_cell NE 4).trans rfl
          have n5 : wt.cell? ⟨w3.heap.size, 5, none⟩ = some (.slice r'.a5 m.sinks.length r'.c5) := (blk_cell NE 5).trans rfl
          have n6 : wt.cell? ⟨w3.heap.size, 6, none⟩ = some (.slice r'.a6 m.hatches.length r'.c6) := (blk_cell NE 6).trans rfl
          have n7 : wt.cell? ⟨w3.heap.size, 7, none⟩ = some (.slice r'.a7 m.funcs.length r'.c7) := (blk_cell NE 7).trans rfl
          have n8 : wt.cell? ⟨w3.heap.size, 8, none⟩ = some (.slice r'.a8 m.threads.length r'.c8) := (blk_cell NE 8).trans rfl
          have HNt := Aside0.mk HNt
          have NE := Aside0.mk NE
          have HM := Aside0.mk HMt.out
          have KEEP : Aside0 (∀ w', Aside0 (Below wt.heap.size wt w') → w'.cell? ⟨w.heap.size, 0, none⟩ = some (.slice r.a0 m.globals.length r.c0) ∧ w'.cell? ⟨w.heap.size, 1, none⟩ = some (.slice r.a1 m.structs.length r.c1) ∧ w'.cell? ⟨w.heap.size, 2, none⟩ = some (.slice r.a2 m.chans.length r.c2) ∧ w'.cell? ⟨w.heap.size, 3, none⟩ = some (.slice r.a3 m.locks.length r.c3) ∧ w'.cell? ⟨w.heap.size, 4, none⟩ = some (.slice r.a4 m.inputs.length r.c4) ∧ w'.cell? ⟨w.heap.size, 5, none⟩ = some (.slice r.a5 m.sinks.length r.c5) ∧ w'.cell? ⟨w.heap.size, 6, none⟩ = some (.slice r.a6 m.hatches.length r.c6) ∧ w'.cell? ⟨w.heap.size, 7, none⟩ = some (.slice r.a7 m.funcs.length r.c7) ∧ w'.cell? ⟨w.heap.size, 8, none⟩ = some (.slice r.a8 m.threads.length r.c8) ∧ w'.cell? ⟨w3.heap.size, 0, none⟩ = some (.slice r'.a0 m.globals.length r'.c0) ∧ w'.cell? ⟨w3.heap.size, 1, none⟩ = some (.slice r'.a1 m.structs.length r'.c1) ∧ w'.cell? ⟨w3.heap.size, 2, none⟩ = some (.slice r'.a2 m.chans.length r'.c2) ∧ w'.cell? ⟨w3.heap.size, 3, none⟩ = some (.slice r'.a3 m.locks.length r'.c3) ∧ w'.cell? ⟨w3.heap.size, 4, none⟩ = some (.slice r'.a4 m.inputs.length r'.c4) ∧ w'.cell? ⟨w3.heap.size, 5, none⟩ = some (.slice r'.a5 m.sinks.length r'.c5) ∧ w'.cell? ⟨w3.heap.size, 6, none⟩ = some (.slice r'.a6 m.hatches.length r'.c6) ∧ w'.cell? ⟨w3.heap.size, 7, none⟩ = some (.slice r'.a7 m.funcs.length r'.c7) ∧ w'.cell? ⟨w3.heap.size, 8, none⟩ = some (.slice r'.a8 m.threads.length r'.c8)) := ⟨fun w' h => ⟨(blk_cell (blk_below HNt.out h.out) 0).trans rfl, (blk_cell (blk_below HNt.out h.out) 1).trans rfl, (blk_cell (blk_below HNt.out h.out) 2).trans rfl, (blk_cell (blk_below HNt.out h.out) 3).trans rfl, (blk_cell (blk_below HNt.out h.out) 4).trans rfl, (blk_cell (blk_below HNt.out h.out) 5).trans rfl, (blk_cell (blk_below HNt.out h.out) 6).trans rfl, (blk_cell (blk_below HNt.out h.out) 7).trans rfl, (blk_cell (blk_below HNt.out h.out) 8).trans rfl, (blk_cell (blk_below NE.out h.out) 0).trans rfl, (blk_cell (blk_below NE.out h.out) 1).trans rfl, (blk_cell (blk_below NE.out h.out) 2).trans rfl, (blk_cell (blk_below NE.out h.out) 3).trans rfl, (blk_cell (blk_below NE.out h.out) 4).trans rfl, (blk_cell (blk_below NE.out h.out) 5).trans rfl, (blk_cell (blk_below NE.out h.out) 6).trans rfl, (blk_cell (blk_below NE.out h.out) 7).trans rfl, (blk_cell (blk_below NE.out h.out) 8).trans rfl⟩⟩
          have Z0 : Aside0 (Below wt.heap.size wt wt.drew) := ⟨(Below.refl wt.heap.size wt).drew⟩
          have TH : Aside0 (∀ W W', Aside0 (Below wt.heap.size wt W) → Below W.heap.size W W' → Aside0 (Below wt.heap.size wt W')) := ⟨fun W W' h b => ⟨below_then h.out h.out.size b⟩⟩
          obtain ⟨rb, hrb⟩ : ∃ b, RightM m = b := ⟨_, rfl⟩
          have CX : Aside0 (∀ W, Aside0 (Below wt.heap.size wt W) → Calls Tryd.prog 10 #[.agg (mdW r m).toArray] W fun e w' => ∃ rq, e = .returned (.agg (mdW rq m).toArray) ∧ Aside0 (∀ W', Aside0 (Below w'.heap.size w' W') → Calls Tryd.prog 11 #[.agg (mdW rq m).toArray] W' fun e w'' => e = .returned (.bool rb) ∧ Below W'.heap.size W' w'') ∧ Below W.heap.size W w') := ⟨fun W h => by
            refine (Copy_any m r W (HM.out.below h.out) HK.out HS.out HZ.out HF.out).mono ?_
            rintro e w' ⟨rq, rfl, ho, b⟩
            refine ⟨rq, rfl, ⟨fun W' h' => ?_⟩, b⟩
            rw [← hrb]
            exact Right_any m rq W' (ho.reads.1.below h'.out) HS.out HZ.out⟩
          have CN : Aside0 (∀ W, Aside0 (Below wt.heap.size wt W) → Calls Tryd.prog 11 #[.agg #[.slice r'.a0 m.globals.length r'.c0, .slice r'.a1 m.structs.length r'.c1, .slice r'.a2 m.chans.length r'.c2, .slice r'.a3 m.locks.length r'.c3, .slice r'.a4 m.inputs.length r'.c4, .slice r'.a5 m.sinks.length r'.c5, .slice r'.a6 m.hatches.length r'.c6, .slice r'.a7 m.funcs.length r'.c7, .slice r'.a8 m.threads.length r'.c8]] W fun e w' => e = .returned (.bool rb) ∧ Below W.heap.size W w') := ⟨fun W h => by
            have := Right_any (chM at_ nm m) r' W (HME.out.below h.out) (ch_S at_ nm m HS.out) (ch_Z at_ nm m HZ.out)
            rwa [mdW_ch, ch_Right, hrb] at this⟩
          clear hrb
          go_wp2_with fail
          first | (go_region_held3 (fun w' => w'.cell? ⟨w.heap.size, 0, none⟩ = some (.slice r.a0 m.globals.length r.c0) ∧ w'.cell? ⟨w.heap.size, 1, none⟩ = some (.slice r.a1 m.structs.length r.c1) ∧ w'.cell? ⟨w.heap.size, 2, none⟩ = some (.slice r.a2 m.chans.length r.c2) ∧ w'.cell? ⟨w.heap.size, 3, none⟩ = some (.slice r.a3 m.locks.length r.c3) ∧ w'.cell? ⟨w.heap.size, 4, none⟩ = some (.slice r.a4 m.inputs.length r.c4) ∧ w'.cell? ⟨w.heap.size, 5, none⟩ = some (.slice r.a5 m.sinks.length r.c5) ∧ w'.cell? ⟨w.heap.size, 6, none⟩ = some (.slice r.a6 m.hatches.length r.c6) ∧ w'.cell? ⟨w.heap.size, 7, none⟩ = some (.slice r.a7 m.funcs.length r.c7) ∧ w'.cell? ⟨w.heap.size, 8, none⟩ = some (.slice r.a8 m.threads.length r.c8) ∧ w'.cell? ⟨w3.heap.size, 0, none⟩ = some (.slice r'.a0 m.globals.length r'.c0) ∧ w'.cell? ⟨w3.heap.size, 1, none⟩ = some (.slice r'.a1 m.structs.length r'.c1) ∧ w'.cell? ⟨w3.heap.size, 2, none⟩ = some (.slice r'.a2 m.chans.length r'.c2) ∧ w'.cell? ⟨w3.heap.size, 3, none⟩ = some (.slice r'.a3 m.locks.length r'.c3) ∧ w'.cell? ⟨w3.heap.size, 4, none⟩ = some (.slice r'.a4 m.inputs.length r'.c4) ∧ w'.cell? ⟨w3.heap.size, 5, none⟩ = some (.slice r'.a5 m.sinks.length r'.c5) ∧ w'.cell? ⟨w3.heap.size, 6, none⟩ = some (.slice r'.a6 m.hatches.length r'.c6) ∧ w'.cell? ⟨w3.heap.size, 7, none⟩ = some (.slice r'.a7 m.funcs.length r'.c7) ∧ w'.cell? ⟨w3.heap.size, 8, none⟩ = some (.slice r'.a8 m.threads.length r'.c8))
            (first | exact KEEP.out _ (by assumption))
            (first
              | (go_at_call 10; refine (CX.out _ (by assumption)).mono ?_; rintro e w' ⟨rq, rfl, CQ, b⟩; have z := TH.out _ _ (by assumption) b; have q0 := Aside0.mk (Below.refl w'.heap.size w'); clear b)
              | (go_at_call 11; with_reducible refine (CQ.out _ (by assumption)).mono ?_; rintro e w' ⟨rfl, b⟩; have z := TH.out _ _ (by assumption) b; clear b)
              | (go_at_call 11; with_reducible refine (CN.out _ (by assumption)).mono ?_; rintro e w' ⟨rfl, b⟩; have z := TH.out _ _ (by assumption) b; clear b))) | fail
          all_goals (
            go_wp2_with fail
            go_ret
            exact ⟨by simp, below_then HBt.out HBt.out.size (Aside0.out (by assumption : Aside0 (Below wt.heap.size wt _)))⟩)
end Go.Proofs.YtdapiibllblpbaaDoor.Code
/- The law CodePlaces: for every input it returns true, and the input reads as it did: the given row, out of the walk; then the tied card. No condition. -/
namespace Go.Proofs.YtdapiibllblpbaaDoor.codePlaces
open Go.ChangeShapes Go.WideShapes Go.ChangeAt Go.RowKit Go.Lib Go.Proofs.YtdapiibllblpbaaDoor.Code
open Go.ChangeMaps (open_string shut_string)
set_option linter.unusedVariables false
theorem own : ownKnob Tryd.prog.godebug = none := by kernel_rfl
theorem laidOut : laidOutB Tryd.prog = true := by kernel_rfl
/-- The witness: the settled world, the three tables holding what their initialisers lay. -/
noncomputable def laidWorld (os : Os) : World :=
  let w0 := World.holding Tryd.prog os ⟨#[], #[], []⟩
  let put (h : Array Obj) (g : Nat) (cs : Array Value) : Array Obj := h.modify g fun
    | .cells _ t frozen => .cells cs t frozen
    | o => o
  let h1 := put w0.heap 0 (Lib.pow10Tab.map fun z => Value.int .u64 z).toArray
  let h2 := put h1 2 (Lib.deBruijn32tab.map fun (z : Nat) => Value.int .u8 z).toArray
  let h3 := put h2 3 (Lib.deBruijn64tab.map fun (z : Nat) => Value.int .u8 z).toArray
  { w0 with heap := h3 }
theorem laid_met (os : Os) (args : Array Value) : laidMet Tryd.prog Rows.codePlacesRow.laid ((laidWorld os).forCall (fun _ _ => 0) ⟨#[], args, []⟩).memory :=
  (LaidIn.of_run (l := Rows.codePlacesRow.laid) [2, 3, 0] 8 (by kernel_rfl) (by kernel_rfl) (by kernel_rfl) (by kernel_rfl)).met
theorem pow10_of {W : World} (h : laidMet Tryd.prog Rows.codePlacesRow.laid W) : Pow10 W := by
  obtain ⟨g, t, cs, fuel, p, hg, ht, hv, hd⟩ := laidMet.reads h (n := "internal/strconv.uint64pow10") (d := Rows.laid_internal_strconv_uint64pow10) (by simp [Rows.codePlacesRow])
  obtain rfl : g = 0 := Option.some.inj (hg.symm.trans (by kernel_rfl))
  obtain rfl : t = 102 := Option.some.inj (ht.symm.trans (by kernel_rfl))
  have hdd : DataW.trod (fun _ => ()) Tryd.prog W 0 (fun _ => true) false fuel 102 cs.toList = some (Lib.tabData .u64 Lib.pow10Tab, p) := hd.trans (by kernel_rfl)
  have := Lib.cells_of_tab (n := 20) (e := 94) (by kernel_rfl) (by kernel_rfl) (by kernel_rfl) (by kernel_rfl) hdd
  unfold Pow10 Lib.TabIs
  rw [hv, ← this]
theorem witness_row (os : Os) {H : Type} (enc : TypeId × Value → H) :
    (OpenSpec.ofChange Rows.codePlacesSpec).preRow enc Tryd.prog Tryd.f6 Rows.codePlacesRow.domain false Rows.codePlacesRow.laid ((laidWorld os).forCall (fun _ _ => 0) ⟨#[], #[.agg #[.slice none 0 0, .slice none 0 0, .slice none 0 0, .slice none 0 0, .slice none 0 0, .slice none 0 0, .slice none 0 0, .slice none 0 0, .slice none 0 0], .int .i64 0, .string ⟨#[]⟩], []⟩).memory #[.agg #[.slice none 0 0, .slice none 0 0, .slice none 0 0, .slice none 0 0, .slice none 0 0, .slice none 0 0, .slice none 0 0, .slice none 0 0, .slice none 0 0], .int .i64 0, .string ⟨#[]⟩] := by
  have hw : (DataW.whole enc Tryd.prog ((laidWorld os).forCall (fun _ _ => 0) ⟨#[], #[.agg #[.slice none 0 0, .slice none 0 0, .slice none 0 0, .slice none 0 0, .slice none 0 0, .slice none 0 0, .slice none 0 0, .slice none 0 0, .slice none 0 0], .int .i64 0, .string ⟨#[]⟩], []⟩).memory Tryd.f6.params.toList (OpenSpec.ofChange Rows.codePlacesSpec).vars false (#[.agg #[.slice none 0 0, .slice none 0 0, .slice none 0 0, .slice none 0 0, .slice none 0 0, .slice none 0 0, .slice none 0 0, .slice none 0 0, .slice none 0 0], .int .i64 0, .string ⟨#[]⟩] : Array Value).toList 8).map (fun x => (x.1, x.2.1)) =
      some ([.agg [.nil, .nil, .nil, .nil, .nil, .nil, .nil, .nil, .nil], .lit (.int .i64 0), .lit (.string [])], []) := by kernel_rfl
  obtain ⟨⟨x1, x2, x3⟩, hx, hx1⟩ := Option.map_eq_some_iff.1 hw
  simp only [Prod.mk.injEq] at hx1
  obtain ⟨rfl, rfl⟩ := hx1
  exact OpenSpec.preRow_of_cond 8 hx (by kernel_rfl) (fun k hk => by cases hk) (by kernel_rfl) (laid_met os _)
set_option maxRecDepth 100000 in
set_option maxHeartbeats 2000000 in
theorem lifted (os : Os) (started : os.Started) (H : Type) (enc : TypeId × Value → H) (F : Stop.Interp) :
    ReturnsInHanded {} Tryd.checked os 6 .any ((OpenSpec.ofChange Rows.codePlacesSpec).preRow enc Tryd.prog Tryd.f6 Rows.codePlacesRow.domain false Rows.codePlacesRow.laid) (((OpenSpec.ofChange Rows.codePlacesSpec).at F).post enc Tryd.prog Tryd.f6 false true false false) := by
  refine returnsInHanded_of_row (C := Tryd.checked) (s := (OpenSpec.ofChange Rows.codePlacesSpec)) own started (by kernel_rfl) Tryd.func6
    (witness_row_atRef (enc := enc) (C := Tryd.checked) false (laidWorld os) #[.agg #[.slice none 0 0, .slice none 0 0, .slice none 0 0, .slice none 0 0, .slice none 0 0, .slice none 0 0, .slice none 0 0, .slice none 0 0, .slice none 0 0], .int .i64 0, .string ⟨#[]⟩] rfl (by kernel_rfl) (by kernel_rfl) (by kernel_rfl) (witness_row os enc)) ?_
  intro W base args ds gs before hval0 hW _ _ hsz0 hL hsh _
  have hsz : (DataW.weightsEach Tryd.prog (Tryd.f6.params.toList ++ (OpenSpec.ofChange Rows.codePlacesSpec).bare.plain.varTypes Tryd.prog) (ds ++ gs)).all (· ≤ reachBytes) = true := hsz0
  have hval : ∀ (j : Nat) t v, Tryd.f6.params[j]? = some t → args[j]? = some v → Value.okWide Tryd.prog W .any base t v := hval0
  have hW' := hW
  obtain ⟨p, q, hA0, hV, rfl, _, _⟩ := hW
  have hA : DataW.TrodAll enc Tryd.prog W 0 (fun _ => true) true Tryd.f6.params.toList args.toList ds p := hA0
  rw [Tryd.params6] at hA hval hsz
  obtain ⟨v0, vs0, d0, ds0, p0, q0, hargs, rfl, rfl, h0, r0⟩ := trodAll_cons hA
  obtain ⟨v1, vs1, d1, ds1, p1, q1, rfl, rfl, rfl, h1, r1⟩ := trodAll_cons r0
  obtain ⟨v2, vs2, d2, ds2, p2, q2, rfl, rfl, rfl, h2, r2⟩ := trodAll_cons r1
  obtain ⟨rfl, rfl, rfl⟩ := trodAll_nil r2
  obtain rfl : args = #[v0, v1, v2] := by cases args; simp_all
  obtain ⟨rfl, rfl⟩ := trodVars_none hV
  have k0 := h0
  have lt0 : ∀ x ∈ p0, x.block < W.heap.size := by obtain ⟨m, hm⟩ := k0; exact DataW.trod_lt m _ _ _ hm
  have hwt : ∀ n ∈ d0.weights Tryd.prog 27, n ≤ reachBytes := fun n hn => of_decide_eq_true (List.all_eq_true.1 hsz n (DataW.weights_mem_each (j := 0) (t := 27) (d := d0) rfl rfl n hn))
  obtain ⟨mr, mm, rfl, hmC, hmK, hmL, hmI⟩ := arg_module (hval 0 27 v0 rfl rfl) h0 hwt
  obtain ⟨a1, rfl, rfl, rfl, w1⟩ := open_int Tryd.underlying3 (hval 1 3 v1 rfl rfl) h1
  obtain ⟨a2, rfl, rfl, rfl, y2⟩ := open_string Tryd.underlying9 (hval 2 9 v2 rfl rfl) h2
  have w2 : a2.size ≤ 140737488351232 := by
    have z := sized_string hsz (j := 2) (t := 9) rfl rfl
    rw [Array.length_toList] at z
    exact z
  have ht10 : Pow10 W := pow10_of hL
  clear hA0 hval0 hsz0 hsz
  refine (places_any mm mr a1 a2 W hmC hmK hmL hmI ht10 w2).mono fun e W' ⟨he, bel⟩ => ?_
  subst he
  exact ⟨_, rfl, _, _, _, [], _, [], hW', trodAll_mk1 (shut_bool Tryd.underlying4 _), (trodAll_cons_mk (Below.trod laidOut (by kernel_rfl) (of_decide_eq_true (by kernel_rfl)) k0 bel lt0) (trodAll_cons_mk (shut_int Tryd.underlying3 w1) (trodAll_cons_mk (shut_string Tryd.underlying9 y2) trodAll_mk0))), rfl, bel.frame _, fun h => by cases h⟩
theorem over : Rows.CodePlacesSaid :=
  OpenClaim.holds_of_cond 6 Tryd.f6 rfl rfl rfl rfl rfl rfl rfl ⟨rfl, rfl, rfl, rfl, rfl⟩ rfl rfl rfl rfl rfl (by kernel_rfl) Tryd.func6 (by kernel_rfl)
    (of_decide_eq_true (by kernel_rfl)) (by unfold Func.isWrapper; first | (rw [if_pos (by decide +kernel)]; kernel_rfl) | (rw [if_neg (by decide +kernel)]; exact ⟨rfl, rfl⟩))
    (fun os started H enc _ F0 => by rw [OpenClaim.pre_eq_preRow]; exact lifted os started H enc F0)
theorem proved : Rows.CodePlacesCardSaid :=
  Claim7.holds_tied_plain_at .later [] [.data, .data, .data] true (true, "a10d14bd31ce332ab7754a4659aeb050d60062314594b17949934f054efb2f35") true
    over (fun _ h => by cases h) (by kernel_rfl) (fun _ h => by cases h) codePlaces_row_tie rfl ⟨rfl, rfl⟩ (by kernel_rfl) rfl
    (fun f fn hf hfn => by
      obtain rfl : f = 6 := Option.some.inj ((show Tryd.prog.funcNamed Rows.codePlacesRow.func = some 6 by kernel_rfl).symm.trans hf) |>.symm
      obtain rfl : fn = Tryd.f6 := (Option.some.inj (Tryd.func6.symm.trans hfn)).symm
      exact ⟨by kernel_rfl, fun j t ht => by
        rw [Tryd.params6] at ht
        cases j with
        | zero =>
          have h3 : t = 27 := by simpa using ht.symm
          subst h3
          exact (show Tryd.prog.wantsStandIn 27 = false by kernel_rfl)
        | succ j =>
          cases j with
          | zero =>
            have h3 : t = 3 := by simpa using ht.symm
            subst h3
            exact (show Tryd.prog.wantsStandIn 3 = false by kernel_rfl)
          | succ j =>
            cases j with
            | zero =>
              have h3 : t = 9 := by simpa using ht.symm
              subst h3
              exact (show Tryd.prog.wantsStandIn 9 = false by kernel_rfl)
            | succ j =>
              simp at ht⟩)
    (by kernel_rfl)
#print axioms proved
end Go.Proofs.YtdapiibllblpbaaDoor.codePlaces
namespace Go.Proofs.YtdapiibllblpbaaDoor
theorem codePlaces_holds : Rows.CodePlacesCardSaid := codePlaces.proved
end Go.Proofs.YtdapiibllblpbaaDoor

