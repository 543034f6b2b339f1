import Derived.Test.YtdapiibllblpbaaDoorS
import Derived.Laws.CopyOwn
import Derived.Test.YtdapiibllblpbaaDoorU
import Derived.Test.YtdapiibllblpbaaDoorQ3
import Derived.Test.YtdapiibllblpbaaDoorOpen
import Derived.SizedLaws
namespace Go.Proofs.YtdapiibllblpbaaDoor.Code
open Go.RowKit Go.Proofs.YtdapiibllblpbaaDoorW.PrintWords Go.Proofs.YtdapiibllblpbaaDoorW.PrintLast Go.Proofs.YtdapiibllblpbaaDoorW.PrintMore Go.Proofs.YtdapiibllblpbaaDoor.PCodeAnswers
set_option linter.unusedVariables false
set_option linter.unusedSimpArgs false

/-! ### A thread that halts at once -/
def haltO (a : Int) : S42 := ⟨23, a, 0, 0, 0, 0, 0, 0, [], 0, 0, 0⟩
def haltF (a : Int) : S39 := ⟨⟨#[116]⟩, 0, 0, 0, [haltO a]⟩
def haltM (a : Int) : Md := ⟨[], [], [], [], [], [], [], [haltF a], [0]⟩
def haltR (h : Nat) : MdR := ⟨none, 0, none, 0, none, 0, none, 0, none, 0, none, 0, none, 0, some ⟨h + 2, 0, none⟩, 1, some ⟨h + 3, 0, none⟩, 1⟩
def haltOV (a : Int) : Obj := .cells #[.int .i64 23, .int .i64 a, .int .i64 0, .int .i64 0, .int .i64 0, .int .i64 0, .int .i64 0, .int .i64 0, .slice none 0 0, .int .i64 0, .int .i64 0, .int .i64 0] 42
def haltFV (h : Nat) : Obj := .cells #[.string ⟨#[116]⟩, .int .i64 0, .int .i64 0, .int .i64 0, .slice (some ⟨h + 1, 0, none⟩) 1 1] 39
structure HaltW (h : Nat) (a : Int) (w : World) : Prop where
  o : w.heap[h + 1]? = some (haltOV a)
  f : w.heap[h + 2]? = some (haltFV h)
  t : w.heap[h + 3]? = some (.cells #[.int .i64 0] 3)
theorem HaltW.below {h : Nat} {a : Int} {w w' : World} (H : HaltW h a w) (b : Below w.heap.size w w') : HaltW h a w' := ⟨blk_below H.o b, blk_below H.f b, blk_below H.t b⟩
theorem one_row {α : Type} {R : α → List Value → Prop} {w : World} {g : Nat} {cs : List Value} {t : TypeId} {fz : Nat × Nat} (x : α) (hg : w.heap[g]? = some (.cells cs.toArray t fz)) (hx : R x cs) : ReadsRow R cs.length w (some ⟨g, 0, none⟩) 1 [x] := by
  refine ⟨rfl, by omega, fun _ => ⟨_, rfl, fun j p hp => ?_⟩⟩
  have hj : j = 0 := by
    have := (List.getElem?_eq_some_iff.1 hp).1
    simp at this
    exact this
  subst hj
  have : x = p := by simpa using hp
  subst this
  refine ⟨cs, rfl, hx, fun i u hu => ?_⟩
  rw [add_plain]
  have := blk_cell1 hg i
  simp only [Nat.zero_mul, Nat.zero_add]
  rw [this]
  simpa using hu
theorem HaltW.reads {h : Nat} {a : Int} {w : World} (H : HaltW h a w) : MdC w (haltR h) (haltM a) := by
  have ho : k42.C w (some ⟨h + 1, 0, none⟩) 1 [haltO a] := one_row (cs := [.int .i64 23, .int .i64 a, .int .i64 0, .int .i64 0, .int .i64 0, .int .i64 0, .int .i64 0, .int .i64 0, .slice none 0 0, .int .i64 0, .int .i64 0, .int .i64 0]) (haltO a) H.o (k42_mk w (haltO a) (Nat.le_refl _) (Kd.C_nil _ _))
  have hf : k39.C w (some ⟨h + 2, 0, none⟩) 1 [haltF a] := one_row (cs := [.string ⟨#[116]⟩, .int .i64 0, .int .i64 0, .int .i64 0, .slice (some ⟨h + 1, 0, none⟩) 1 1]) (haltF a) H.f (k39_mk w (haltF a) (Nat.le_refl _) ho)
  have ht : (Kd.int .i64).C w (some ⟨h + 3, 0, none⟩) 1 [0] := one_row (cs := [.int .i64 0]) 0 H.t rfl
  exact ⟨Kd.C_nil _ _, Kd.C_nil _ _, Kd.C_nil _ _, Kd.C_nil _ _, Kd.C_nil _ _, Kd.C_nil _ _, Kd.C_nil _ _, hf, ht⟩
theorem halt_S (a : Int) : MdS (haltM a) := ⟨by simp [haltM], by simp [haltM], by simp [haltM], by simp [haltM], by simp [haltM], by simp [haltM], by simp [haltM], by simp [haltM], by simp [haltM]⟩
theorem halt_Z (a : Int) : MdZ (haltM a) := by intro f hf o ho; simp [haltM] at hf; subst hf; simp [haltF] at ho; subst ho; simp [haltO]
theorem halt_I : MdI (haltM 0) := by
  intro f hf o ho; simp [haltM] at hf; subst hf; simp [haltF] at ho; subst ho
  exact ⟨by intro v hv; simp [haltO] at hv; subst hv; exact ok_small 0 (by omega) (by omega), by intro v hv; simp [haltO] at hv⟩
set_option maxHeartbeats 2000000 in
theorem Halts_any (w : World) : Calls Tryd.prog 20 #[] w fun e w' => e = .returned (.agg (mdW (haltR w.heap.size) (haltM 0)).toArray) ∧ HaltW w.heap.size 0 w' ∧ Below w.heap.size w w' := by
  obtain ⟨w0, hw0⟩ : ∃ w0, w.alloc (.cells #[.slice none 0 0, .slice none 0 0, .slice none 0 0, .slice none 0 0, .slice none 0 0, .slice none 0 0, .slice none 0 0, .slice none 0 0, .slice none 0 0] 27) = w0 := ⟨_, rfl⟩
  obtain ⟨w3, hw3⟩ : ∃ w3, ((w0.alloc (haltOV 0)).alloc (haltFV w.heap.size)).alloc (.cells #[.int .i64 0] 3) = w3 := ⟨_, rfl⟩
  have hs0 : w0.heap.size = w.heap.size + 1 := by rw [← hw0]; exact World.size_alloc ..
  have hb0 : w0.heap[w.heap.size]? = some (.cells #[.slice none 0 0, .slice none 0 0, .slice none 0 0, .slice none 0 0, .slice none 0 0, .slice none 0 0, .slice none 0 0, .slice none 0 0, .slice none 0 0] 27 (0, 0)) := by rw [← hw0]; exact blk_new w _
  have b3 : Below w0.heap.size w0 w3 := by rw [← hw3]; exact below_alloc (below_alloc (below_alloc (Below.refl _ _) _) _) _
  have HB0 : Aside0 (Below w.heap.size w w0) := ⟨by rw [← hw0]; exact below_alloc (Below.refl _ _) _⟩
  have H1 : Aside0 (w3.heap[w.heap.size + 1]? = some (haltOV 0)) := ⟨by
    rw [← hw3, ← hs0]
    exact blk_below (blk_new w0 _) (below_alloc (below_alloc (Below.refl _ _) _) _)⟩
  have H2 : Aside0 (w3.heap[w.heap.size + 2]? = some (haltFV w.heap.size)) := ⟨by
    have := blk_below (blk_new (w0.alloc (haltOV 0)) (haltFV w.heap.size)) (below_alloc (Below.refl _ _) (.cells #[.int .i64 0] 3))
    rw [World.size_alloc, hs0] at this
    rw [← hw3]
    exact this⟩
  have H3 : Aside0 (w3.heap[w.heap.size + 3]? = some (.cells #[.int .i64 0] 3)) := ⟨by
    have := blk_new ((w0.alloc (haltOV 0)).alloc (haltFV w.heap.size)) (.cells #[.int .i64 0] 3)
    rw [World.size_alloc, World.size_alloc, hs0] at this
    rw [← hw3]
    exact this⟩
  have HR := Aside0.mk (blk_below hb0 b3)
  have HB3 : Aside0 (Below w.heap.size w w3) := ⟨below_then HB0.out HB0.out.size b3⟩
  unfold haltOV haltFV at hw3
  clear hb0 b3
  go_enter Tryd.func20, Tryd.ntmps20
  go_wp2_with (refine wpList_store_row rfl 27 (.tmp 0) (.tmp 6) rfl w.heap.size (mdW (haltR w.heap.size) (haltM 0)).toArray rfl rfl 27 _ HR.out (by kernel_rfl) rfl (by simp [mdW]; exact ⟨rfl, rfl, rfl, rfl, rfl, rfl, rfl, rfl, rfl⟩) ?_)
  refine bodyPost_ret (results_cell_row rfl _ _ w.heap.size 27 (mdW (haltR w.heap.size) (haltM 0)).toArray (0, 0) _ rfl (setRow_heap _ _ _ _ _ _ HR.out) Tryd.underlying27 rfl (by kernel_rfl)) rfl ?_
  refine ⟨rfl, ⟨?_, ?_, ?_⟩, below_setRow HB3.out (Nat.le_refl _) _⟩
  · exact (setRow_other _ _ _ _ (by omega)).trans H1.out
  · exact (setRow_other _ _ _ _ (by omega)).trans H2.out
  · exact (setRow_other _ _ _ _ (by omega)).trans H3.out
/-! ### alive -/
theorem halt_right : RightM (haltM 0) = true := by decide
theorem halt_wrong : RightM (haltM 1) = false := by decide
theorem halt_words : WordsM (haltM 0) = 0 := by decide
theorem halt_size : SizeM (haltM 0) = 1 := by decide
theorem dec_0 : Lib.decDigits 0 = [48] := by unfold Lib.decDigits; rfl
theorem itoa_0 : Lib.itoa 0 = [48] := by unfold Lib.itoa; rw [if_neg (by decide)]; exact dec_0
theorem halt_show : ShowM (haltM 0) = ([102, 117, 110, 99, 32, 48, 32, 48, 32, 48, 32, 48, 10, 48, 32, 114, 101, 116, 117, 114, 110, 32, 48, 32, 48, 32, 48, 32, 48, 32, 48, 32, 48, 32, 48, 10], 0) := by
  unfold ShowM
  rw [halt_right, if_pos rfl]
  simp [haltM, haltF, haltO, textM, fnText, opsText, lineL, fnL, opL, opFirst, rd_T39, rd_T42, Lib.join, List.intercalate, piece, itoa_0, nm, nms, List.range_succ]
theorem halt_set {h : Nat} {w : World} (H : HaltW h 0 w) : HaltW h 1 (w.setCell ⟨h + 1, 1, none⟩ (.int .i64 1)) :=
  ⟨(blk_set H.o 1 _).trans rfl, (Below.heap_setCell _ _ _ _ (by show h + 2 ≠ h + 1; omega)).trans H.f, (Below.heap_setCell _ _ _ _ (by show h + 3 ≠ h + 1; omega)).trans H.t⟩
theorem haltShow_any (h : Nat) (w : World) (H : HaltW h 0 w) (ht : Pow10 w) :
    Calls Tryd.prog 18 #[.agg (mdW (haltR h) (haltM 0)).toArray] w fun e w' => e = .returned (.tuple #[.string ⟨#[102, 117, 110, 99, 32, 48, 32, 48, 32, 48, 32, 48, 10, 48, 32, 114, 101, 116, 117, 114, 110, 32, 48, 32, 48, 32, 48, 32, 48, 32, 48, 32, 48, 32, 48, 10]⟩, .int .i64 0]) ∧ Below w.heap.size w w' := by
  have := Show_any (haltM 0) (haltR h) w H.reads (halt_S 0) (halt_Z 0) halt_I ht
  rw [halt_show] at this
  exact this
theorem haltRight_any (a : Int) (h : Nat) (w : World) (H : HaltW h a w) :
    Calls Tryd.prog 11 #[.agg (mdW (haltR h) (haltM a)).toArray] w fun e w' => e = .returned (.bool (RightM (haltM a))) ∧ Below w.heap.size w w' :=
  Right_any (haltM a) (haltR h) w H.reads (halt_S a) (halt_Z a)
set_option maxRecDepth 100000 in
set_option maxHeartbeats 8000000 in
theorem alive_any (w : World) (ht : Pow10 w) : Calls Tryd.prog 8 #[] w fun e w' => e = .returned (.bool true) ∧ Below w.heap.size w w' := by
  have HT := Aside0.mk ht
  clear ht
  have C1 := Aside0.mk (Halts_any w)
  go_enter Tryd.func8, Tryd.ntmps8
  go_wp2_with fail
  refine C1.out.mono ?_
  rintro e w1 ⟨rfl, H1, b1⟩
  have B1 := Aside0.mk b1
  have C2 := Aside0.mk (haltShow_any _ w1 H1 (HT.out.below b1))
  clear b1 H1 C1
  go_wp2_with fail
  refine C2.out.mono ?_
  rintro e w2 ⟨rfl, b2⟩
  have B2 := Aside0.mk (below_then B1.out B1.out.size b2)
  have C3 := Aside0.mk (Halts_any w2)
  clear b2 C2
  go_wp2_with fail
  refine C3.out.mono ?_
  rintro e w3 ⟨rfl, H3, b3⟩
  have B3 := Aside0.mk (below_then B2.out B2.out.size b3)
  have H3 := Aside0.mk H3
  have hs3 : w2.heap.size < w3.heap.size := Nat.lt_of_lt_of_le (by omega) (Nat.le_of_lt (blk_lt H3.out.t))
  obtain ⟨w4, hw4⟩ : ∃ w4, w3.alloc (.cells (mdW (haltR w2.heap.size) (haltM 0)).toArray 27) = w4 := ⟨_, rfl⟩
  have HM4 : Aside0 (w4.heap[w3.heap.size]? = some (.cells (mdW (haltR w2.heap.size) (haltM 0)).toArray 27 (0, 0))) := ⟨by rw [← hw4]; exact blk_new w3 _⟩
  have b4 : Below w3.heap.size w3 w4 := by rw [← hw4]; exact below_alloc (Below.refl _ _) _
  have B4 := Aside0.mk (below_then B3.out B3.out.size b4)
  have H4 := Aside0.mk (H3.out.below b4)
  have H3o := Aside0.mk (blk_lt H3.out.o)
  have g7 : w4.cell? ⟨w3.heap.size, 7, none⟩ = some (.slice (some ⟨w2.heap.size + 2, 0, none⟩) 1 1) := (blk_cell HM4.out 7).trans rfl
  have f4 : w4.cell? ⟨w2.heap.size + 2, 4, none⟩ = some (.slice (some ⟨w2.heap.size + 1, 0, none⟩) 1 1) := (blk_cell1 H4.out.f 4).trans rfl
  have o1 : w4.cell? ⟨w2.heap.size + 1, 1, none⟩ = some (.int .i64 0) := (blk_cell1 H4.out.o 1).trans rfl
  have fr : w4.frozen? ⟨w2.heap.size + 1, 1, none⟩ = false := by simp [World.frozen?, H4.out.o, haltOV]
  have hb2 : w2.heap.size ≤ w2.heap.size + 1 := by omega
  have H5 := Aside0.mk (halt_set H4.out)
  have HM5 : Aside0 ((w4.setCell ⟨w2.heap.size + 1, 1, none⟩ (.int .i64 1)).heap[w3.heap.size]? = some (.cells (mdW (haltR w2.heap.size) (haltM 0)).toArray 27 (0, 0))) := ⟨(Below.heap_setCell _ _ _ _ (by have := H3o.out; show w3.heap.size ≠ w2.heap.size + 1; omega)).trans HM4.out⟩
  have B5 : Aside0 (Below w.heap.size w (w4.setCell ⟨w2.heap.size + 1, 1, none⟩ (.int .i64 1))) := ⟨B4.out.setCell (p := ⟨w2.heap.size + 1, 1, none⟩) (by have := B2.out.size; show w.heap.size ≤ w2.heap.size + 1; omega) _⟩
  obtain ⟨w5, hw5⟩ : ∃ w5, w4.setCell ⟨w2.heap.size + 1, 1, none⟩ (.int .i64 1) = w5 := ⟨_, rfl⟩
  rw [hw5] at H5 HM5 B5
  have C5 := Aside0.mk (Halts_any w5)
  clear b3 b4 hs3 C3
  go_wp2_with (refine wpList_store_row rfl 27 (.tmp 3) (.tmp 9) rfl w3.heap.size (mdW (haltR w2.heap.size) (haltM 0)).toArray rfl rfl 27 _ (blk_new w3 _) (by kernel_rfl) rfl (by simp [mdW]; exact ⟨rfl, rfl, rfl, rfl, rfl, rfl, rfl, rfl, rfl⟩) ?_; rw [World.setRow_alloc_new, hw4])
  refine C5.out.mono ?_
  rintro e w6 ⟨rfl, H6, b6⟩
  have B6 := Aside0.mk (below_then B5.out B5.out.size b6)
  have H56 := Aside0.mk (H5.out.below b6)
  have HM6 := Aside0.mk (blk_below HM5.out b6)
  have C6 := Aside0.mk (haltRight_any 0 _ w6 H6)
  rw [halt_right] at C6
  clear b6 H6 C5 g7 f4 o1 fr hw4 hw5
  go_wp2_with fail
  refine C6.out.mono ?_
  rintro e w7 ⟨rfl, b7⟩
  have B7 := Aside0.mk (below_then B6.out B6.out.size b7)
  have H57 := Aside0.mk (H56.out.below b7)
  have HM7 := blk_below HM6.out b7
  have g0 : w7.cell? ⟨w3.heap.size, 0, none⟩ = some (.slice none 0 0) := (blk_cell HM7 0).trans rfl
  have g1 : w7.cell? ⟨w3.heap.size, 1, none⟩ = some (.slice none 0 0) := (blk_cell HM7 1).trans rfl
  have g2 : w7.cell? ⟨w3.heap.size, 2, none⟩ = some (.slice none 0 0) := (blk_cell HM7 2).trans rfl
  have g3 : w7.cell? ⟨w3.heap.size, 3, none⟩ = some (.slice none 0 0) := (blk_cell HM7 3).trans rfl
  have g4 : w7.cell? ⟨w3.heap.size, 4, none⟩ = some (.slice none 0 0) := (blk_cell HM7 4).trans rfl
  have g5 : w7.cell? ⟨w3.heap.size, 5, none⟩ = some (.slice none 0 0) := (blk_cell HM7 5).trans rfl
  have g6 : w7.cell? ⟨w3.heap.size, 6, none⟩ = some (.slice none 0 0) := (blk_cell HM7 6).trans rfl
  have g7 : w7.cell? ⟨w3.heap.size, 7, none⟩ = some (.slice (some ⟨w2.heap.size + 2, 0, none⟩) 1 1) := (blk_cell HM7 7).trans rfl
  have g8 : w7.cell? ⟨w3.heap.size, 8, none⟩ = some (.slice (some ⟨w2.heap.size + 3, 0, none⟩) 1 1) := (blk_cell HM7 8).trans rfl
  have C7 := Aside0.mk (haltRight_any 1 _ w7 H57.out)
  rw [halt_wrong] at C7
  clear b7 C6 HM7
  go_wp2_with fail
  refine C7.out.mono ?_
  rintro e w8 ⟨rfl, b8⟩
  have B8 := Aside0.mk (below_then B7.out B7.out.size b8)
  have C8 := Aside0.mk (Halts_any w8)
  clear b8 C7 g0 g1 g2 g3 g4 g5 g6 g7 g8
  go_wp2_with fail
  refine C8.out.mono ?_
  rintro e w9 ⟨rfl, H9, b9⟩
  have B9 := Aside0.mk (below_then B8.out B8.out.size b9)
  have C9 := Aside0.mk (Size_any (haltM 0) (haltR w8.heap.size) w9 H9.reads (halt_S 0) (halt_Z 0))
  rw [halt_size] at C9
  clear b9 C8 H9
  go_wp2_with fail
  refine C9.out.mono ?_
  rintro e w10 ⟨rfl, b10⟩
  have B10 := Aside0.mk (below_then B9.out B9.out.size b10)
  have C10 := Aside0.mk (Halts_any w10)
  clear b10 C9
  go_wp2_with fail
  refine C10.out.mono ?_
  rintro e w11 ⟨rfl, H11, b11⟩
  have B11 := Aside0.mk (below_then B10.out B10.out.size b11)
  have C11 := Aside0.mk (Words_any (haltM 0) (haltR w10.heap.size) w11 H11.reads (halt_S 0) (halt_Z 0))
  rw [halt_words] at C11
  clear b11 C10 H11
  go_wp2_with fail
  refine C11.out.mono ?_
  rintro e w12 ⟨rfl, b12⟩
  have B12 := Aside0.mk (below_then B11.out B11.out.size b12)
  clear b12 C11
  go_wp2_with fail
  go_ret
  exact ⟨rfl, B12.out⟩
end Go.Proofs.YtdapiibllblpbaaDoor.Code
namespace Go.Proofs.YtdapiibllblpbaaDoor.Code
open Go.RowKit Go.Proofs.YtdapiibllblpbaaDoorW.PrintWords Go.Proofs.YtdapiibllblpbaaDoorW.PrintLast Go.Proofs.YtdapiibllblpbaaDoorW.PrintMore Go.Proofs.YtdapiibllblpbaaDoor.PCodeAnswers
set_option linter.unusedVariables false
set_option linter.unusedSimpArgs false

/-! ### What a module weighs -/
theorem wrap64_big (n : Int) (h0 : 0 ≤ n) (h1 : n ≤ 4611686018427387904) : wrap64 n = n := by
  unfold wrap64
  omega
theorem rdOf_mem (l : List ByteArray) (k : Nat) (hk : k < l.length) : rdOf ByteArray.empty l k ∈ l := by
  unfold rdOf
  rw [Int.toNat_natCast, List.getD_eq_getElem?_getD, List.getElem?_eq_getElem hk]
  exact List.getElem_mem _
theorem rd46_mem (l : List S46) (k : Nat) (hk : k < l.length) : rd_T46 l k ∈ l := by
  unfold rd_T46
  rw [Int.toNat_natCast, List.getD_eq_getElem?_getD, List.getElem?_eq_getElem hk]
  exact List.getElem_mem _
theorem weighSized_l0 (l : List S46) (most : Int) (hm : most ≤ 1000000) (hl : l.length ≤ 140737488355328) (hs : ∀ x ∈ l, x.f0.size ≤ 140737488355328) : ∀ (d i : Nat) (n : Int), i + d = l.length → 0 ≤ n → n ≤ 2000000000000000 →
    ∃ K r, (∀ k, K ≤ k → portcullisref00_weighSized.l0 k l n most i = some r) ∧ n ≤ r ∧ r ≤ 2000000000000000
  | 0, i, n, h, h0, h1 => ⟨1, n, fun k hk => by
    obtain ⟨k, rfl⟩ : ∃ q, k = q + 1 := ⟨k - 1, by omega⟩
    unfold portcullisref00_weighSized.l0
    rw [if_neg (by omega)], by omega, h1⟩
  | d + 1, i, n, h, h0, h1 => by
    by_cases hn : n ≤ most
    · have hm2 := hs _ (rd46_mem l i (by omega))
      obtain ⟨K, r, hr, h2, h3⟩ := weighSized_l0 l most hm hl hs d (i + 1) (n + ((rd_T46 l i).f0.size : Int)) (by omega) (by omega) (by omega)
      refine ⟨K + 1, r, fun k hk => ?_, by omega, h3⟩
      obtain ⟨k, rfl⟩ : ∃ q, k = q + 1 := ⟨k - 1, by omega⟩
      unfold portcullisref00_weighSized.l0
      rw [if_pos (by omega), if_pos hn, if_pos (by omega), wrap64_big _ (by omega) (by omega), wrap64_big _ (by omega) (by omega)]
      exact hr k (by omega)
    · refine ⟨1, n, fun k hk => ?_, by omega, h1⟩
      obtain ⟨k, rfl⟩ : ∃ q, k = q + 1 := ⟨k - 1, by omega⟩
      unfold portcullisref00_weighSized.l0
      rw [if_pos (by omega), if_neg hn]
theorem weighTexts_l0 (l : List ByteArray) (most : Int) (hm : most ≤ 1000000) (hl : l.length ≤ 140737488355328) (hs : ∀ x ∈ l, x.size ≤ 140737488355328) : ∀ (d i : Nat) (n : Int), i + d = l.length → 0 ≤ n → n ≤ 2000000000000000 →
    ∃ K r, (∀ k, K ≤ k → portcullisref00_weighTexts.l0 k l n most i = some r) ∧ n ≤ r ∧ r ≤ 2000000000000000
  | 0, i, n, h, h0, h1 => ⟨1, n, fun k hk => by
    obtain ⟨k, rfl⟩ : ∃ q, k = q + 1 := ⟨k - 1, by omega⟩
    unfold portcullisref00_weighTexts.l0
    rw [if_neg (by omega)], by omega, h1⟩
  | d + 1, i, n, h, h0, h1 => by
    by_cases hn : n ≤ most
    · have hm2 := hs _ (rdOf_mem l i (by omega))
      obtain ⟨K, r, hr, h2, h3⟩ := weighTexts_l0 l most hm hl hs d (i + 1) (n + ((rdOf ByteArray.empty l i).size : Int)) (by omega) (by omega) (by omega)
      refine ⟨K + 1, r, fun k hk => ?_, by omega, h3⟩
      obtain ⟨k, rfl⟩ : ∃ q, k = q + 1 := ⟨k - 1, by omega⟩
      unfold portcullisref00_weighTexts.l0
      rw [if_pos (by omega), if_pos hn, if_pos (by omega), wrap64_big _ (by omega) (by omega), wrap64_big _ (by omega) (by omega)]
      exact hr k (by omega)
    · refine ⟨1, n, fun k hk => ?_, by omega, h1⟩
      obtain ⟨k, rfl⟩ : ∃ q, k = q + 1 := ⟨k - 1, by omega⟩
      unfold portcullisref00_weighTexts.l0
      rw [if_pos (by omega), if_neg hn]
/-- Every length is one that memory holds. -/
structure MdL (m : Md) : Prop where
  l0 : m.globals.length ≤ 140737488355328 ∧ ∀ x ∈ m.globals, x.f0.size ≤ 140737488355328
  l1 : m.structs.length ≤ 140737488355328 ∧ ∀ x ∈ m.structs, x.f0.size ≤ 140737488355328
  l2 : m.chans.length ≤ 140737488355328 ∧ ∀ x ∈ m.chans, x.f0.size ≤ 140737488355328
  l3 : m.locks.length ≤ 140737488355328 ∧ ∀ x ∈ m.locks, x.size ≤ 140737488355328
  l4 : m.inputs.length ≤ 140737488355328 ∧ ∀ x ∈ m.inputs, x.size ≤ 140737488355328
  l5 : m.sinks.length ≤ 140737488355328 ∧ ∀ x ∈ m.sinks, x.size ≤ 140737488355328
  l6 : m.hatches.length ≤ 140737488355328 ∧ ∀ x ∈ m.hatches, x.size ≤ 140737488355328
  l7 : m.funcs.length ≤ 140737488355328 ∧ ∀ f ∈ m.funcs, f.f0.size ≤ 140737488355328 ∧ f.f4.length ≤ 140737488355328 ∧ ∀ o ∈ f.f4, o.f8.length ≤ 140737488355328
  l8 : m.threads.length ≤ 140737488355328
theorem weigh_tail (m : Md) (hL : MdL m) (most : Int) (hm : most ≤ 1000000) (n : Int) (h0 : 0 ≤ n) (h1 : n ≤ 2000000000000000) :
    ∃ K r, (∀ k, K ≤ k → ((portcullisref00_weighSized.f k m.globals n most).bind fun t179 => ((portcullisref00_weighSized.f k m.structs t179 most).bind fun t180 => ((portcullisref00_weighSized.f k m.chans t180 most).bind fun t181 => ((portcullisref00_weighTexts.f k m.locks t181 most).bind fun t182 => ((portcullisref00_weighTexts.f k m.inputs t182 most).bind fun t183 => ((portcullisref00_weighTexts.f k m.sinks t183 most).bind fun t184 => ((portcullisref00_weighTexts.f k m.hatches t184 most).bind fun t185 => (some t185)))))))) = some r) ∧ n ≤ r := by
  obtain ⟨K0, r0, e0, a0, b0⟩ := weighSized_l0 m.globals most hm hL.l0.1 hL.l0.2 m.globals.length 0 n (by omega) h0 h1
  obtain ⟨K1, r1, e1, a1, b1⟩ := weighSized_l0 m.structs most hm hL.l1.1 hL.l1.2 m.structs.length 0 r0 (by omega) (by omega) b0
  obtain ⟨K2, r2, e2, a2, b2⟩ := weighSized_l0 m.chans most hm hL.l2.1 hL.l2.2 m.chans.length 0 r1 (by omega) (by omega) b1
  obtain ⟨K3, r3, e3, a3, b3⟩ := weighTexts_l0 m.locks most hm hL.l3.1 hL.l3.2 m.locks.length 0 r2 (by omega) (by omega) b2
  obtain ⟨K4, r4, e4, a4, b4⟩ := weighTexts_l0 m.inputs most hm hL.l4.1 hL.l4.2 m.inputs.length 0 r3 (by omega) (by omega) b3
  obtain ⟨K5, r5, e5, a5, b5⟩ := weighTexts_l0 m.sinks most hm hL.l5.1 hL.l5.2 m.sinks.length 0 r4 (by omega) (by omega) b4
  obtain ⟨K6, r6, e6, a6, b6⟩ := weighTexts_l0 m.hatches most hm hL.l6.1 hL.l6.2 m.hatches.length 0 r5 (by omega) (by omega) b5
  refine ⟨K0 + K1 + K2 + K3 + K4 + K5 + K6, r6, fun k hk => ?_, by omega⟩
  have f0 : portcullisref00_weighSized.f k m.globals n most = some r0 := e0 k (by omega)
  have f1 : portcullisref00_weighSized.f k m.structs r0 most = some r1 := e1 k (by omega)
  have f2 : portcullisref00_weighSized.f k m.chans r1 most = some r2 := e2 k (by omega)
  have f3 : portcullisref00_weighTexts.f k m.locks r2 most = some r3 := e3 k (by omega)
  have f4 : portcullisref00_weighTexts.f k m.inputs r3 most = some r4 := e4 k (by omega)
  have f5 : portcullisref00_weighTexts.f k m.sinks r4 most = some r5 := e5 k (by omega)
  have f6 : portcullisref00_weighTexts.f k m.hatches r5 most = some r6 := e6 k (by omega)
  rw [f0, Option.bind_some, f1, Option.bind_some, f2, Option.bind_some, f3, Option.bind_some, f4, Option.bind_some, f5, Option.bind_some, f6, Option.bind_some]
/-- What is told when all is little. -/
def LittleF (m : Md) (r : Int) (i : Nat) : Prop := ∀ j : Nat, i ≤ j → j < m.funcs.length → ((rd_T39 m.funcs j).f4.length : Int) ≤ r ∧ ∀ o ∈ (rd_T39 m.funcs j).f4, (o.f8.length : Int) ≤ r
theorem weigh_l1 (m : Md) (hL : MdL m) (most : Int) (hm : most ≤ 1000000) (i : Nat) (hi : i < m.funcs.length)
    (hrec : ∀ n : Int, 0 ≤ n → n ≤ 2000000000000000 → ∃ K r, (∀ k, K ≤ k → portcullisref00_WeighModule.l0 k most n ((i + 1 : Nat) : Int) m.globals m.structs m.chans m.locks m.inputs m.sinks m.hatches m.funcs m.threads = some r) ∧ n ≤ r ∧ (r ≤ most → LittleF m r (i + 1))) :
    ∀ (d j : Nat) (n : Int), j + d = (rd_T39 m.funcs i).f4.length → 0 ≤ n → n ≤ 2000000000000000 →
    ∃ K r, (∀ k, K ≤ k → portcullisref00_WeighModule.l1 k most n i j m.globals m.structs m.chans m.locks m.inputs m.sinks m.hatches m.funcs m.threads = some r) ∧ n ≤ r ∧ (r ≤ most → LittleF m r (i + 1) ∧ ∀ q : Nat, j ≤ q → q < (rd_T39 m.funcs i).f4.length → ((rd_T42 (rd_T39 m.funcs i).f4 q).f8.length : Int) ≤ r)
  | 0, j, n, h, h0, h1 => by
    obtain ⟨K, r, hr, h2, h3⟩ := hrec n h0 h1
    have hf := hL.l7.1
    refine ⟨K + 1, r, fun k hk => ?_, h2, fun hle => ⟨h3 hle, fun q hq hq2 => by omega⟩⟩
    obtain ⟨k, rfl⟩ : ∃ q, k = q + 1 := ⟨k - 1, by omega⟩
    unfold portcullisref00_WeighModule.l1
    rw [if_pos (by omega), if_pos (by omega), if_neg (by omega), wrap64_big _ (by omega) (by omega)]
    exact hr k (by omega)
  | d + 1, j, n, h, h0, h1 => by
    have hf := hL.l7.1
    have hfm := hL.l7.2 _ (rd39_mem m.funcs i hi)
    by_cases hn : n ≤ most
    · have ho := hfm.2.2 _ (rd42_mem (rd_T39 m.funcs i).f4 j (by omega))
      obtain ⟨K, r, hr, h2, h3⟩ := weigh_l1 m hL most hm i hi hrec d (j + 1) (n + ((rd_T42 (rd_T39 m.funcs i).f4 j).f8.length : Int)) (by omega) (by omega) (by omega)
      refine ⟨K + 1, r, fun k hk => ?_, by omega, fun hle => ⟨(h3 hle).1, fun q hq hq2 => ?_⟩⟩
      · obtain ⟨k, rfl⟩ : ∃ q, k = q + 1 := ⟨k - 1, by omega⟩
        unfold portcullisref00_WeighModule.l1
        rw [if_pos (by omega), if_pos (by omega), if_pos (by omega), if_pos hn, if_pos (by omega), wrap64_big _ (by omega) (by omega), wrap64_big _ (by omega) (by omega)]
        exact hr k (by omega)
      · by_cases e : q = j
        · subst e; omega
        · exact (h3 hle).2 q (by omega) hq2
    · obtain ⟨K, r, hr, h2, h3⟩ := hrec n h0 h1
      refine ⟨K + 1, r, fun k hk => ?_, h2, fun hle => by omega⟩
      obtain ⟨k, rfl⟩ : ∃ q, k = q + 1 := ⟨k - 1, by omega⟩
      unfold portcullisref00_WeighModule.l1
      rw [if_pos (by omega), if_pos (by omega), if_pos (by omega), if_neg hn, wrap64_big _ (by omega) (by omega)]
      exact hr k (by omega)
theorem rd42_all {l : List S42} {r : Int} (h : ∀ q : Nat, 0 ≤ q → q < l.length → ((rd_T42 l q).f8.length : Int) ≤ r) : ∀ o ∈ l, (o.f8.length : Int) ≤ r := by
  intro o ho
  obtain ⟨q, hq, rfl⟩ := List.getElem_of_mem ho
  have := h q (Nat.zero_le _) hq
  unfold rd_T42 at this
  rw [Int.toNat_natCast, List.getD_eq_getElem?_getD, List.getElem?_eq_getElem hq] at this
  exact this
theorem weigh_l0 (m : Md) (hL : MdL m) (most : Int) (hm : most ≤ 1000000) : ∀ (d i : Nat), i + d = m.funcs.length → ∀ n : Int, 0 ≤ n → n ≤ 2000000000000000 →
    ∃ K r, (∀ k, K ≤ k → portcullisref00_WeighModule.l0 k most n i m.globals m.structs m.chans m.locks m.inputs m.sinks m.hatches m.funcs m.threads = some r) ∧ n ≤ r ∧ (r ≤ most → LittleF m r i)
  | 0, i, h, n, h0, h1 => by
    obtain ⟨K, r, hr, h2⟩ := weigh_tail m hL most hm n h0 h1
    refine ⟨K + 2, r, fun k hk => ?_, h2, fun _ j hj hj2 => by omega⟩
    obtain ⟨k, rfl⟩ : ∃ q, k = q + 2 := ⟨k - 2, by omega⟩
    unfold portcullisref00_WeighModule.l0
    rw [if_neg (by omega)]
    unfold portcullisref00_WeighModule.j1
    rw [if_neg (by decide)]
    exact hr k (by omega)
  | d + 1, i, h, n, h0, h1 => by
    have hi : i < m.funcs.length := by omega
    by_cases hn : n ≤ most
    · have hfm := hL.l7.2 _ (rd39_mem m.funcs i hi)
      obtain ⟨K, r, hr, h2, h3⟩ := weigh_l1 m hL most hm i hi (fun n h0 h1 => weigh_l0 m hL most hm d (i + 1) (by omega) n h0 h1) (rd_T39 m.funcs i).f4.length 0 (n + (((rd_T39 m.funcs i).f0.size : Int) + ((rd_T39 m.funcs i).f4.length : Int))) (by omega) (by omega) (by omega)
      refine ⟨K + 2, r, fun k hk => ?_, by omega, fun hle j hj hj2 => ?_⟩
      · obtain ⟨k, rfl⟩ : ∃ q, k = q + 2 := ⟨k - 2, by omega⟩
        unfold portcullisref00_WeighModule.l0
        rw [if_pos (by omega), decide_eq_true hn]
        unfold portcullisref00_WeighModule.j1
        rw [if_pos rfl, if_pos (by omega), if_pos (by omega), wrap64_big ((((rd_T39 m.funcs i).f0).size : Int) + _) (by omega) (by omega), wrap64_big _ (by omega) (by omega)]
        exact hr k (by omega)
      · by_cases e : j = i
        · subst e
          exact ⟨by omega, rd42_all (h3 hle).2⟩
        · exact (h3 hle).1 j (by omega) hj2
    · obtain ⟨K, r, hr, h2⟩ := weigh_tail m hL most hm n h0 h1
      refine ⟨K + 2, r, fun k hk => ?_, h2, fun hle => by omega⟩
      obtain ⟨k, rfl⟩ : ∃ q, k = q + 2 := ⟨k - 2, by omega⟩
      unfold portcullisref00_WeighModule.l0
      rw [if_pos (by omega), decide_eq_false hn]
      unfold portcullisref00_WeighModule.j1
      rw [if_neg (by decide)]
      exact hr k (by omega)
theorem weigh_any (m : Md) (r : MdR) (w : World) (hm : MdC w r m) (hk : MdK r m) (hL : MdL m) (most : Int) (hmo : most ≤ 1000000) :
    Calls Tryd.prog 9 #[.agg (mdW r m).toArray, .int .i64 most] w fun e w' => (∃ n : Int, e = .returned (.int .i64 n) ∧ (n ≤ most → MdS m ∧ MdZ m ∧ MdF m)) ∧ Below w.heap.size w w' := by
  obtain ⟨K, n, hn, h2, h3⟩ := weigh_l0 m hL most hmo m.funcs.length 0 (by omega) ((m.globals.length : Int) + (m.structs.length : Int) + (m.chans.length : Int) + (m.locks.length : Int) + (m.inputs.length : Int) + (m.sinks.length : Int) + (m.hatches.length : Int) + (m.threads.length : Int) + (m.funcs.length : Int)) (by omega) (by
    have := hL.l0.1; have := hL.l1.1; have := hL.l2.1; have := hL.l3.1; have := hL.l4.1; have := hL.l5.1; have := hL.l6.1; have := hL.l7.1; have := hL.l8; omega)
  have a0 := hL.l0.1
  have a1 := hL.l1.1
  have a2 := hL.l2.1
  have a3 := hL.l3.1
  have a4 := hL.l4.1
  have a5 := hL.l5.1
  have a6 := hL.l6.1
  have a7 := hL.l7.1
  have a8 := hL.l8
  have hf : portcullisref00_WeighModule.f K m.globals m.structs m.chans m.locks m.inputs m.sinks m.hatches m.funcs m.threads most = some n := by
    unfold portcullisref00_WeighModule.f
    rw [wrap64_big ((m.globals.length : Int) + (m.structs.length : Int)) (by omega) (by omega), wrap64_big ((m.globals.length : Int) + (m.structs.length : Int) + (m.chans.length : Int)) (by omega) (by omega), wrap64_big ((m.globals.length : Int) + (m.structs.length : Int) + (m.chans.length : Int) + (m.locks.length : Int)) (by omega) (by omega), wrap64_big ((m.globals.length : Int) + (m.structs.length : Int) + (m.chans.length : Int) + (m.locks.length : Int) + (m.inputs.length : Int)) (by omega) (by omega), wrap64_big ((m.globals.length : Int) + (m.structs.length : Int) + (m.chans.length : Int) + (m.locks.length : Int) + (m.inputs.length : Int) + (m.sinks.length : Int)) (by omega) (by omega), wrap64_big ((m.globals.length : Int) + (m.structs.length : Int) + (m.chans.length : Int) + (m.locks.length : Int) + (m.inputs.length : Int) + (m.sinks.length : Int) + (m.hatches.length : Int)) (by omega) (by omega), wrap64_big ((m.globals.length : Int) + (m.structs.length : Int) + (m.chans.length : Int) + (m.locks.length : Int) + (m.inputs.length : Int) + (m.sinks.length : Int) + (m.hatches.length : Int) + (m.threads.length : Int)) (by omega) (by omega), wrap64_big ((m.globals.length : Int) + (m.structs.length : Int) + (m.chans.length : Int) + (m.locks.length : Int) + (m.inputs.length : Int) + (m.sinks.length : Int) + (m.hatches.length : Int) + (m.threads.length : Int) + (m.funcs.length : Int)) (by omega) (by omega)]
    exact hn K (Nat.le_refl _)
  refine (portcullisref00_WeighModule.calls K r.a0 r.c0 m.globals r.a1 r.c1 m.structs r.a2 r.c2 m.chans r.a3 r.c3 m.locks r.a4 r.c4 m.inputs r.a5 r.c5 m.sinks r.a6 r.c6 m.hatches r.a7 r.c7 m.funcs r.a8 r.c8 m.threads most n w hm.h0 hk.k0 hm.h1 hk.k1 hm.h2 hk.k2 hm.h3 hk.k3 hm.h4 hk.k4 hm.h5 hk.k5 hm.h6 hk.k6 hm.h7 hk.k7 hm.h8 hk.k8 hf).mono ?_
  rintro e w' ⟨rfl, b⟩
  refine ⟨⟨n, rfl, fun hle => ?_⟩, b⟩
  have hlf := h3 hle
  refine ⟨⟨by omega, by omega, by omega, by omega, by omega, by omega, by omega, by omega, by omega⟩, ?_, ?_⟩
  · intro f hf o ho
    obtain ⟨j, hj, rfl⟩ := List.getElem_of_mem hf
    have := (hlf j (Nat.zero_le _) hj).2 o (by
      unfold rd_T39
      rw [Int.toNat_natCast, List.getD_eq_getElem?_getD, List.getElem?_eq_getElem hj]
      exact ho)
    omega
  · intro f hf
    obtain ⟨j, hj, rfl⟩ := List.getElem_of_mem hf
    have := (hlf j (Nat.zero_le _) hj).1
    unfold rd_T39 at this
    rw [Int.toNat_natCast, List.getD_eq_getElem?_getD, List.getElem?_eq_getElem hj] at this
    have h5 : ((m.funcs[j].f4.length : Nat) : Int) ≤ n := this
    omega
end Go.Proofs.YtdapiibllblpbaaDoor.Code
namespace Go.Proofs.YtdapiibllblpbaaDoor.Code
open Go.RowKit Go.ChangeShapes Go.WideShapes Go.Proofs.YtdapiibllblpbaaDoorW.PrintWords Go.Proofs.YtdapiibllblpbaaDoor Go.Proofs.YtdapiibllblpbaaDoor.PCodeAnswers
set_option linter.unusedVariables false
set_option linter.unusedSimpArgs false
set_option maxRecDepth 100000

/-! ### What is read as a datum of bounded weights -/
structure OpensB {α : Type} (P : Program) (t : TypeId) (d : Kd α) (G : α → Prop) : Prop where
  sz : P.cellsOf t = d.sz
  out : ∀ {H : Type} (enc : TypeId × Value → H) (w : World) (base : Nat) (spare : Nat → Bool) (held : Bool) (fuel : Nat) (cs : List Value) (x : DataW H × List MemPlace),
    DataW.trod enc P w base spare held fuel t cs = some x → (∀ n ∈ x.1.weights P t, n ≤ reachBytes) → ∃ a, d.K w a cs ∧ G a
section
variable {P : Program}
theorem OpensB.imp {α : Type} {t : TypeId} {d : Kd α} {G G' : α → Prop} (h : OpensB P t d G) (hg : ∀ a, G a → G' a) : OpensB P t d G' :=
  ⟨h.sz, fun enc w base spare held fuel cs x hx hw => let ⟨a, h1, h2⟩ := h.out enc w base spare held fuel cs x hx hw; ⟨a, h1, hg a h2⟩⟩
theorem OpensB.of {α : Type} {t : TypeId} {d : Kd α} {G : α → Prop} (h : Opens P t d G) : OpensB P t d G :=
  ⟨h.sz, fun enc w base spare held fuel cs x hx _ => h.out enc w base spare held fuel cs x hx⟩
theorem opensB_string {t : TypeId} (ht : P.underlying t = some .string) (hs : P.cellsOf t = 1) : OpensB P t Kd.string (fun s => s.size ≤ 140737488355328) :=
  ⟨hs, fun enc w base spare held fuel cs x hx hw => by
    obtain ⟨n, rfl, rfl, _⟩ := DataW.trod_string ht hx
    refine ⟨n, rfl, ?_⟩
    have h1 : n.size ≤ reachBytes := hw n.size (by rw [DataW.weights]; exact List.mem_singleton.2 rfl)
    have h2 := reachBytes_lt
    omega⟩
theorem weightsAll_mem {H : Type} {e : TypeId} : ∀ {l : List (DataW H)} {d : DataW H}, d ∈ l → ∀ n ∈ d.weights P e, n ∈ DataW.weightsAll P e l
  | x :: l, d, h, n, hn => by
    unfold DataW.weightsAll
    rw [List.mem_append]
    rcases List.mem_cons.1 h with rfl | h
    · exact Or.inl hn
    · exact Or.inr (weightsAll_mem h n hn)
theorem opensB_slice {α : Type} {t e : TypeId} {d : Kd α} {G : α → Prop} (ht : P.underlying t = some (.slice e)) (hs : P.cellsOf t = 1) (hb : 0 < P.bytesOf e) (he : OpensB P e d G) : OpensB P t (Kd.slice e d) (fun xs => xs.length ≤ 140737488355328 ∧ ∀ x ∈ xs, G x) :=
  ⟨hs, fun enc w base spare held fuel cs x hx hw => by
    rcases Go.Deep.open_slice ht hx with ⟨rfl, rfl⟩ | ⟨a, len, cap, m, n, D, Pl, rfl, _, hl, hm, hmm, rfl, hi⟩
    · exact ⟨[], ⟨none, 0, rfl, Nat.zero_le _, Kd.C_nil _ _⟩, by simp, by simp⟩
    · have hlm : len ≤ m := by rw [hmm]; split <;> omega
      have hlen : len ≤ 140737488355328 := by
        have h1 := hw ((((List.range len).map D).length + ((List.range (m - len)).map fun j => D (len + j)).length) * P.bytesOf e) (by simp [DataW.weights, ht])
        simp only [List.length_map, List.length_range] at h1
        have h2 := reachBytes_lt
        have h3 : len * 1 ≤ (len + (m - len)) * P.bytesOf e := Nat.mul_le_mul (by omega) hb
        omega
      have hwe : ∀ q, q < len → ∀ n ∈ (D q).weights P e, n ≤ reachBytes := by
        intro q hq n hn
        refine hw n ?_
        simp only [DataW.weights, ht, List.mem_cons, List.mem_append]
        exact Or.inr (Or.inl (weightsAll_mem (List.mem_map.2 ⟨q, List.mem_range.2 hq, rfl⟩) n hn))
      have key : ∀ q, q ≤ len → ∃ xs : List α, xs.length = q ∧ (∀ x ∈ xs, G x) ∧ ∀ j p, xs[j]? = some p → ∃ c, c.length = d.sz ∧ d.K w p c ∧ ∀ i u, c[i]? = some u → w.cell? (a.add (j * d.sz + i)) = some u := by
        intro q
        induction q with
        | zero => exact fun _ => ⟨[], rfl, by simp, fun j p hj => by simp at hj⟩
        | succ q ih =>
          intro hq
          obtain ⟨xs, h1, h2, h3⟩ := ih (by omega)
          obtain ⟨cs', hc, htr⟩ := hi q (by omega)
          obtain ⟨y, hy, hg⟩ := he.out enc w base spare held n cs' _ htr (hwe q (by omega))
          obtain ⟨_, hcl, hat⟩ := World.cells?_some hc
          refine ⟨xs ++ [y], by simp [h1], ?_, ?_⟩
          · intro z hz
            rcases List.mem_append.1 hz with hz | hz
            · exact h2 z hz
            · rw [List.mem_singleton.1 hz]; exact hg
          · intro j p hj
            rcases Nat.lt_or_ge j xs.length with hlt | hge
            · rw [List.getElem?_append_left hlt] at hj
              exact h3 j p hj
            · rw [List.getElem?_append_right hge] at hj
              have hjq : j = q := by
                have := (List.getElem?_eq_some_iff.1 hj).1
                simp at this; omega
              subst hjq
              rw [h1, Nat.sub_self] at hj
              simp at hj
              subst hj
              refine ⟨cs', by rw [hcl, he.sz], hy, fun i u hu => ?_⟩
              have hil : i < P.cellsOf e := by rw [← hcl]; exact (List.getElem?_eq_some_iff.1 hu).1
              have h4 := hat i hil
              rw [hu] at h4
              rw [← h4, Go.Deep.add_add, he.sz]
      obtain ⟨xs, h1, h2, h3⟩ := key len (Nat.le_refl _)
      subst h1
      exact ⟨xs, ⟨some a, cap, rfl, hl, rfl, by simp only [maxLen] at hm; omega, fun _ => ⟨a, rfl, h3⟩⟩, hlen, h2⟩⟩
/-- Fields one behind the other, from cell off on, are of the kind d. -/
structure OpensBF {α : Type} (P : Program) (fs : List Field) (off : Nat) (d : Kd α) (G : α → Prop) : Prop where
  out : ∀ {H : Type} (enc : TypeId × Value → H) (w : World) (base : Nat) (spare : Nat → Bool) (held : Bool) (cs : List Value), cs.length = off + d.sz →
    (∀ f ∈ fs, ∃ (fuel : Nat) (x : DataW H × List MemPlace), DataW.trod enc P w base spare held fuel f.type ((cs.drop f.offset).take (P.cellsOf f.type)) = some x ∧ ∀ n ∈ x.1.weights P f.type, n ≤ reachBytes) → ∃ a, d.K w a (cs.drop off) ∧ G a
theorem OpensBF.one {α : Type} {f : Field} {off : Nat} {d : Kd α} {G : α → Prop} (ho : f.offset = off) (h : OpensB P f.type d G) : OpensBF P [f] off d G := by
  constructor
  intro H enc w base spare held cs hl hf
  obtain ⟨fuel, x, hx, hw⟩ := hf f (List.mem_singleton.2 rfl)
  rw [ho, h.sz, List.take_of_length_le (by rw [List.length_drop]; omega)] at hx
  exact h.out enc w base spare held fuel _ x hx hw
theorem OpensBF.cons {α β : Type} {f : Field} {fs : List Field} {off : Nat} {d : Kd α} {d' : Kd β} {G : α → Prop} {G' : β → Prop} (ho : f.offset = off) (h : OpensB P f.type d G) (hs : OpensBF P fs (off + d.sz) d' G') :
    OpensBF P (f :: fs) off (Kd.pair d d') (fun x => G x.1 ∧ G' x.2) := by
  constructor
  intro H enc w base spare held cs hl hf
  have hl' : cs.length = off + d.sz + d'.sz := by rw [hl]; show off + (d.sz + d'.sz) = _; omega
  obtain ⟨fuel, x, hx, hw⟩ := hf f List.mem_cons_self
  rw [ho, h.sz] at hx
  obtain ⟨a, h1, h2⟩ := h.out enc w base spare held fuel _ x hx hw
  obtain ⟨b, h3, h4⟩ := hs.out enc w base spare held cs hl' (fun g hg => hf g (List.mem_cons_of_mem _ hg))
  refine ⟨(a, b), ⟨_, _, ?_, h1, h3⟩, h2, h4⟩
  rw [← List.drop_drop, List.take_append_drop]
theorem opensB_struct {α β : Type} {t : TypeId} {fs : Array Field} {d : Kd α} {G : α → Prop} (f : β → α) (g : α → β) (hfg : ∀ a, f (g a) = a) (ht : P.underlying t = some (.struct fs)) (hs : P.cellsOf t = d.sz) (hf : OpensBF P fs.toList 0 d G) :
    OpensB P t (Kd.iso d f) (fun x => G (f x)) :=
  ⟨hs, fun enc w base spare held fuel cs x hx hw => by
    obtain ⟨xs, n, _, rfl, hcl, hl, hget⟩ := DataW.trod_struct ht hx
    obtain ⟨a, h1, h2⟩ := hf.out enc w base spare held cs (by rw [hcl, hs]; omega) (fun fd hfd => by
      obtain ⟨i, hi⟩ := List.getElem?_of_mem hfd
      have h3 := hget i fd (by simpa using hi)
      have hil : i < xs.length := by rw [hl]; have := (List.getElem?_eq_some_iff.1 hi).1; simpa using this
      rw [List.getElem?_eq_getElem hil] at h3
      refine ⟨_, _, h3, fun n hn => hw n ?_⟩
      simp only [DataW.weights, ht]
      exact DataW.weights_mem_each (j := i) (by rw [List.getElem?_map, hi]; rfl) (by rw [List.getElem?_map, List.getElem?_eq_getElem hil]; rfl) n hn)
    exact ⟨g a, by show d.K w (f (g a)) cs; rw [hfg]; exact h1, by rw [hfg]; exact h2⟩⟩
end
/-! ### A module -/
def i64 (n : Int) : Prop := -9223372036854775808 ≤ n ∧ n ≤ 9223372036854775807
theorem o_int : OpensB Tryd.prog 3 (Kd.int .i64) i64 := OpensB.of ((opens_int Tryd.underlying3 (by kernel_rfl)).imp (fun n h => wf64 h))
theorem o_str : OpensB Tryd.prog 9 Kd.string (fun s => s.size ≤ 140737488355328) := opensB_string Tryd.underlying9 (by kernel_rfl)
theorem o_46 : OpensB Tryd.prog 46 k46 (fun x => x.f0.size ≤ 140737488355328) :=
  (opensB_struct (fun x : S46 => (x.f0, x.f1)) (fun y => ⟨y.1, y.2⟩) (fun _ => rfl) Tryd.underlying46 (by kernel_rfl) (OpensBF.cons rfl o_str (OpensBF.one rfl o_int))).imp (fun _ h => h.1)
theorem o_ints : OpensB Tryd.prog 25 (Kd.slice 3 (Kd.int .i64)) (fun xs => xs.length ≤ 140737488355328 ∧ ∀ x ∈ xs, i64 x) := opensB_slice Tryd.underlying25 (by kernel_rfl) (by decide +kernel) o_int
def G42 (x : S42) : Prop := opI x ∧ x.f8.length ≤ 140737488355328
theorem o_42 : OpensB Tryd.prog 42 k42 G42 :=
  (opensB_struct (fun x : S42 => (x.f0, x.f1, x.f2, x.f3, x.f4, x.f5, x.f6, x.f7, x.f8, x.f9, x.f10, x.f11)) (fun y => ⟨y.1, y.2.1, y.2.2.1, y.2.2.2.1, y.2.2.2.2.1, y.2.2.2.2.2.1, y.2.2.2.2.2.2.1, y.2.2.2.2.2.2.2.1, y.2.2.2.2.2.2.2.2.1, y.2.2.2.2.2.2.2.2.2.1, y.2.2.2.2.2.2.2.2.2.2.1, y.2.2.2.2.2.2.2.2.2.2.2⟩) (fun _ => rfl) Tryd.underlying42 (by kernel_rfl)
    (OpensBF.cons rfl o_int (OpensBF.cons rfl o_int (OpensBF.cons rfl o_int (OpensBF.cons rfl o_int (OpensBF.cons rfl o_int (OpensBF.cons rfl o_int (OpensBF.cons rfl o_int (OpensBF.cons rfl o_int (OpensBF.cons rfl o_ints (OpensBF.cons rfl o_int (OpensBF.cons rfl o_int (OpensBF.one rfl o_int))))))))))))).imp (fun x h => by
      obtain ⟨h0, h1, h2, h3, h4, h5, h6, h7, ⟨h8, h8'⟩, h9, h10, h11⟩ := h
      refine ⟨⟨?_, h8'⟩, h8⟩
      intro v hv
      simp only [List.mem_cons, List.not_mem_nil, or_false] at hv
      rcases hv with rfl | rfl | rfl | rfl | rfl | rfl | rfl | rfl | rfl <;> assumption)
theorem o_ops : OpensB Tryd.prog 37 (Kd.slice 42 k42) (fun xs => xs.length ≤ 140737488355328 ∧ ∀ x ∈ xs, G42 x) := opensB_slice Tryd.underlying37 (by kernel_rfl) (by decide +kernel) o_42
def G39 (x : S39) : Prop := x.f0.size ≤ 140737488355328 ∧ x.f4.length ≤ 140737488355328 ∧ ∀ o ∈ x.f4, G42 o
theorem o_39 : OpensB Tryd.prog 39 k39 G39 :=
  (opensB_struct (fun x : S39 => (x.f0, x.f1, x.f2, x.f3, x.f4)) (fun y => ⟨y.1, y.2.1, y.2.2.1, y.2.2.2.1, y.2.2.2.2⟩) (fun _ => rfl) Tryd.underlying39 (by kernel_rfl)
    (OpensBF.cons rfl o_str (OpensBF.cons rfl o_int (OpensBF.cons rfl o_int (OpensBF.cons rfl o_int (OpensBF.one rfl o_ops)))))).imp (fun x h => ⟨h.1, h.2.2.2.2⟩)
theorem o_sz : OpensB Tryd.prog 22 (Kd.slice 46 k46) (fun xs => xs.length ≤ 140737488355328 ∧ ∀ x ∈ xs, x.f0.size ≤ 140737488355328) := opensB_slice Tryd.underlying22 (by kernel_rfl) (by decide +kernel) o_46
theorem o_txts : OpensB Tryd.prog 23 (Kd.slice 9 Kd.string) (fun xs => xs.length ≤ 140737488355328 ∧ ∀ x ∈ xs, x.size ≤ 140737488355328) := opensB_slice Tryd.underlying23 (by kernel_rfl) (by decide +kernel) o_str
theorem o_fns : OpensB Tryd.prog 24 (Kd.slice 39 k39) (fun xs => xs.length ≤ 140737488355328 ∧ ∀ x ∈ xs, G39 x) := opensB_slice Tryd.underlying24 (by kernel_rfl) (by decide +kernel) o_39
def k27 : Kd Md := Kd.iso (Kd.pair (Kd.slice 46 k46) (Kd.pair (Kd.slice 46 k46) (Kd.pair (Kd.slice 46 k46) (Kd.pair (Kd.slice 9 Kd.string) (Kd.pair (Kd.slice 9 Kd.string) (Kd.pair (Kd.slice 9 Kd.string) (Kd.pair (Kd.slice 9 Kd.string) (Kd.pair (Kd.slice 39 k39) (Kd.slice 3 (Kd.int .i64)))))))))) (fun x : Md => (x.globals, x.structs, x.chans, x.locks, x.inputs, x.sinks, x.hatches, x.funcs, x.threads))
theorem k27_open {w : World} {m : Md} {cs : List Value} (h : k27.K w m cs) : ∃ r, cs = mdW r m ∧ MdC w r m ∧ MdK r m := by
  obtain ⟨_, _, rfl, ⟨a0, c0, rfl, l0, h0⟩, _, _, rfl, ⟨a1, c1, rfl, l1, h1⟩, _, _, rfl, ⟨a2, c2, rfl, l2, h2⟩, _, _, rfl, ⟨a3, c3, rfl, l3, h3⟩, _, _, rfl, ⟨a4, c4, rfl, l4, h4⟩, _, _, rfl, ⟨a5, c5, rfl, l5, h5⟩, _, _, rfl, ⟨a6, c6, rfl, l6, h6⟩, _, _, rfl, ⟨a7, c7, rfl, l7, h7⟩, a8, c8, rfl, l8, h8⟩ := h
  exact ⟨⟨a0, c0, a1, c1, a2, c2, a3, c3, a4, c4, a5, c5, a6, c6, a7, c7, a8, c8⟩, rfl, ⟨h0, h1, h2, h3, h4, h5, h6, h7, h8⟩, ⟨l0, l1, l2, l3, l4, l5, l6, l7, l8⟩⟩
theorem o_27 : OpensB Tryd.prog 27 k27 (fun m => MdL m ∧ MdI m) :=
  (opensB_struct (fun x : Md => (x.globals, x.structs, x.chans, x.locks, x.inputs, x.sinks, x.hatches, x.funcs, x.threads)) (fun y => ⟨y.1, y.2.1, y.2.2.1, y.2.2.2.1, y.2.2.2.2.1, y.2.2.2.2.2.1, y.2.2.2.2.2.2.1, y.2.2.2.2.2.2.2.1, y.2.2.2.2.2.2.2.2⟩) (fun _ => rfl) Tryd.underlying27 (by kernel_rfl)
    (OpensBF.cons rfl o_sz (OpensBF.cons rfl o_sz (OpensBF.cons rfl o_sz (OpensBF.cons rfl o_txts (OpensBF.cons rfl o_txts (OpensBF.cons rfl o_txts (OpensBF.cons rfl o_txts (OpensBF.cons rfl o_fns (OpensBF.one rfl o_ints)))))))))).imp (fun m h => by
      obtain ⟨h0, h1, h2, h3, h4, h5, h6, h7, h8⟩ := h
      exact ⟨⟨h0, h1, h2, h3, h4, h5, h6, ⟨h7.1, fun f hf => ⟨(h7.2 f hf).1, (h7.2 f hf).2.1, fun o ho => ((h7.2 f hf).2.2 o ho).2⟩⟩, h8.1⟩, fun f hf o ho => ((h7.2 f hf).2.2 o ho).1⟩)
/-- A module parameter, opened. -/
theorem arg_module {H : Type} {enc : TypeId × Value → H} {W : World} {base : Nat} {v : Value} (hv : Value.okWide Tryd.prog W .any base 27 v)
    {b : Nat} {sp : Nat → Bool} {hd : Bool} {x : DataW H} {p : List MemPlace} (h : DataW.Trod enc Tryd.prog W b sp hd 27 v x p) (hw : ∀ n ∈ x.weights Tryd.prog 27, n ≤ reachBytes) :
    ∃ (r : MdR) (m : Md), v = .agg (mdW r m).toArray ∧ MdC W r m ∧ MdK r m ∧ MdL m ∧ MdI m := by
  obtain ⟨cs, rfl, _⟩ := okWide_struct Tryd.underlying27 hv
  obtain ⟨fuel, hf⟩ := h
  obtain ⟨m, hk, hl, hi⟩ := o_27.out enc W b sp hd fuel _ _ hf hw
  obtain ⟨r, he, hc, hkk⟩ := k27_open hk
  refine ⟨r, m, ?_, hc, hkk, hl, hi⟩
  congr 1
  apply Array.toList_inj.1
  simpa [Value.cells] using he
end Go.Proofs.YtdapiibllblpbaaDoor.Code
