import Derived.Test.YtpbaebjohioijaaRT
import Derived.Test.YtpbaebjohioijaaBF
namespace Go.Proofs.Ytpbaebjohioijaa.Lat
open Go.RowKit Go.Proofs.YtpbaebjohioijaaW.PrintWords Go.Proofs.YtpbaebjohioijaaW.PrintLast Go.Proofs.YtpbaebjohioijaaW.PrintMore Go.Proofs.Ytpbaebjohioijaa.PSolveLeast
set_option linter.unusedVariables false
set_option linter.unusedSimpArgs false

/-! ### order -/
/-- What order answers. -/
def OrderP (n nv : Int) (es : List (Int × Int)) (cl : Nat) (base : Nat) (e : Ending) (w' : World) : Prop :=
  (∃ o A0 m0 c0, e = .returned (.tuple #[o, .agg #[.slice A0 m0 c0], .bool false])) ∨
  (es.length ≤ 200 ∧ cl ≤ 3000 ∧ nv ≤ 5000 ∧ codeM n es = 0 ∧ ∃ hb ub db A' c' bs, e = .returned (.tuple #[.pointer (some ⟨hb, 0, none⟩), .agg #[.slice A' n.toNat c'], .bool true]) ∧
    TO w' hb ub db n.toNat (closE n.toNat es).1 (closE n.toNat es).2 ∧ LQ w' base (.slice A' n.toNat c') bs n.toNat (rch n.toNat (natE es)) ∧ bs.length = n.toNat)
theorem TO.far31 {w : World} {hb ub db n : Nat} {us ds : List Int} (h : TO w hb ub db n us ds) {g : Nat} {cs : Array Value} (hg : w.heap[g]? = some (.cells cs 31 (0, 0))) (i : Nat) (v : Value) : TO (w.setCell ⟨g, i, none⟩ v) hb ub db n us ds :=
  ⟨blk_far h.hbk (blk_ne h.hbk hg (by decide)) v, h.u.far (blk_ne h.u.bk hg (by decide)) v, h.d.far (blk_ne h.d.bk hg (by decide)) v, h.ne, h.le8⟩
theorem code_cases (n : Int) (es : List (Int × Int)) : codeM n es = 0 ∨ codeM n es = 22 ∨ codeM n es = 30 ∨ codeM n es = 31 := by
  unfold codeM
  split
  · exact .inr (.inl rfl)
  · split
    · exact .inr (.inr (.inl rfl))
    · split
      · first | exact .inl rfl | exact .inr (.inr (.inr rfl))
      · first | exact .inl rfl | exact .inr (.inr (.inr rfl))
set_option maxHeartbeats 4000000 in
set_option maxRecDepth 100000 in
theorem order8 (n nv : Int) (A B : Option Addr) (c cB : Nat) (es : List (Int × Int)) (cl : Nat) (w : World) (hr : Kd.C KE w A es.length es) (hcl : cl ≤ 9223372036854775807) :
    Calls Try.prog 8 #[.agg #[.int .i64 n, .slice A es.length c, .int .i64 nv, .slice B cl cB]] w fun e w' => Below w.heap.size w w' ∧ OrderP n nv es cl w.heap.size e w' := by
  have HC := Aside0.mk hr
  clear hr
  obtain ⟨wa, hwa⟩ : ∃ wa, w.alloc (.cells #[.int .i64 n, .slice A es.length c, .int .i64 nv, .slice B cl cB] 25) = wa := ⟨_, rfl⟩
  have ba : Below w.heap.size w wa := by rw [← hwa]; exact below_alloc (Below.refl _ _) _
  have na : wa.heap[w.heap.size]? = some (.cells #[.int .i64 n, .slice A es.length c, .int .i64 nv, .slice B cl cB] 25 (0, 0)) := by rw [← hwa]; exact blk_new w _
  obtain ⟨wb, hwb⟩ : ∃ wb, wa.alloc (.cells #[.slice none 0 0] 31) = wb := ⟨_, rfl⟩
  have bb : Below wa.heap.size wa wb := by rw [← hwb]; exact below_alloc (Below.refl _ _) _
  have nb : Aside0 (wb.heap[wa.heap.size]? = some (.cells #[.slice none 0 0] 31 (0, 0))) := ⟨by rw [← hwb]; exact blk_new wa _⟩
  have GB := Aside0.mk (ba.size)
  have NB := Aside0.mk (blk_below na bb)
  have BB := Aside0.mk (below_then ba ba.size bb)
  obtain ⟨pb, hpb⟩ : ∃ pb, w.heap.size = pb := ⟨_, rfl⟩
  obtain ⟨gb, hgb⟩ : ∃ gb, wa.heap.size = gb := ⟨_, rfl⟩
  have HP := Aside0.mk hpb
  have c0 : wb.cell? ⟨pb, 0, none⟩ = some (.int .i64 n) := by rw [← hpb, blk_cell NB.out]; rfl
  have c1 : wb.cell? ⟨pb, 1, none⟩ = some (.slice A es.length c) := by rw [← hpb, blk_cell NB.out]; rfl
  have c2 : wb.cell? ⟨pb, 2, none⟩ = some (.int .i64 nv) := by rw [← hpb, blk_cell NB.out]; rfl
  have c3 : wb.cell? ⟨pb, 3, none⟩ = some (.slice B cl cB) := by rw [← hpb, blk_cell NB.out]; rfl
  have NG : Aside0 (wb.heap[gb]? = some (.cells #[.slice none 0 0] 31 (0, 0))) := ⟨by rw [← hgb]; exact nb.out⟩
  have hfz := blk_frozen NG.out 0
  have hcz : wb.cell? ⟨gb, 0, none⟩ = some (.slice none 0 0) := (blk_cell NG.out 0).trans rfl
  have HGL : Aside0 (w.heap.size ≤ gb) := ⟨by rw [← hgb]; exact ba.size⟩
  have BR : Aside0 (Below w.heap.size w (wb.setCell ⟨gb, 0, none⟩ (.slice none 0 0))) := ⟨below_set BB.out HGL.out⟩
  clear ba na bb
  go_enter Try.func8, Try.ntmps8
  by_cases h1 : (200 : Int) < (es.length : Int)
  · go_wp2_with fail
    refine bodyPost_ret (results_tct rfl _ _ gb 31 #[.slice none 0 0] (0, 0) _ rfl (blk_set NG.out 0 _) Try.underlying31 rfl (by kernel_rfl)) rfl ?_
    exact ⟨by first | exact BR.out | (rw [← HP.out]; exact BR.out), .inl ⟨_, _, _, _, rfl⟩⟩
  by_cases h2 : (3000 : Int) < (cl : Int)
  · go_wp2_with fail
    refine bodyPost_ret (results_tct rfl _ _ gb 31 #[.slice none 0 0] (0, 0) _ rfl (blk_set NG.out 0 _) Try.underlying31 rfl (by kernel_rfl)) rfl ?_
    exact ⟨by first | exact BR.out | (rw [← HP.out]; exact BR.out), .inl ⟨_, _, _, _, rfl⟩⟩
  by_cases h3 : 5000 < nv
  · go_wp2_with fail
    refine bodyPost_ret (results_tct rfl _ _ gb 31 #[.slice none 0 0] (0, 0) _ rfl (blk_set NG.out 0 _) Try.underlying31 rfl (by kernel_rfl)) rfl ?_
    exact ⟨by first | exact BR.out | (rw [← HP.out]; exact BR.out), .inl ⟨_, _, _, _, rfl⟩⟩
  have CB := Aside0.mk (Kd.C_below HC.out BB.out)
  have NPA := Aside0.mk (blk_below NB.out (below_alloc (Below.refl wb.heap.size wb) (.cells #[] 48)))
  have d1 : (wb.alloc (.cells #[] 48)).cell? ⟨pb, 1, none⟩ = some (.slice A es.length c) := by rw [← HP.out, blk_cell NPA.out]; rfl
  go_wp2_with (at_builtin
               refine Kd.R_append_rows KE wb.heap.size rfl (.tmp 27) (.tmp 29) 22 48 _ 16 rfl Try.underlying22 info48 rfl (by decide) (by decide) (.slice (some ⟨wb.heap.size, 0, none⟩) 0 0) [] es A es.length c (fun _ => True) (fun _ => False) rfl rfl (lit_nil KE 48 wb wb.heap.size (Nat.le_refl _)) (Kd.C_below CB.out (below_alloc (Below.refl _ _) _)) (fun x cs h => h) (fun _ h => h.elim) (fun _ _ => trivial) (below_alloc (Below.refl _ _) _) (by simp) (by simp; omega) ?_
               intro v1 w1 hv1 hb1 hg1 hat1
               obtain ⟨D, cD, ev, _, hC⟩ := Kd.R_reads hv1
               rw [List.nil_append] at ev hC
               subst ev
               have HV := Aside0.mk hC
               have B1 := Aside0.mk (below_then BB.out BB.out.size hb1)
               have NB1 := Aside0.mk (blk_below NB.out hb1)
               have NG1 := Aside0.mk (blk_below NG.out hb1)
               clear hv1 hC hb1 hg1 hat1
               have f0 : w1.cell? ⟨pb, 0, none⟩ = some (.int .i64 n) := by rw [← HP.out, blk_cell NB1.out]; rfl
               have f1 : w1.cell? ⟨pb, 1, none⟩ = some (.slice A es.length c) := by rw [← HP.out, blk_cell NB1.out]; rfl)
  refine (new_any n D cD es w1 HV.out (by omega)).mono ?_
  rintro e w2 ⟨b2, ⟨h, rfl⟩ | ⟨HK, hb, ub, db, rfl, T⟩⟩
  all_goals have B2 := Aside0.mk (below_then B1.out B1.out.size b2)
  all_goals have NB2 := Aside0.mk (blk_below NB1.out b2)
  all_goals have NG2 := Aside0.mk (blk_below NG1.out b2)
  all_goals clear b2
  all_goals have g0 : w2.cell? ⟨pb, 0, none⟩ = some (.int .i64 n) := by rw [← HP.out, blk_cell NB2.out]; rfl
  all_goals have g1 : w2.cell? ⟨pb, 1, none⟩ = some (.slice A es.length c) := by rw [← HP.out, blk_cell NB2.out]; rfl
  all_goals have C2 := Aside0.mk (Kd.C_below HC.out B2.out)
  · have HZ : Aside0 (codeM n es = 22 ∨ codeM n es = 30 ∨ codeM n es = 31) := ⟨(code_cases n es).resolve_left h⟩
    have H' := Aside0.mk h
    clear h
    have Q : ∀ z : Int, z = codeM n es → (z = 22 ∨ z = 30 ∨ z = 31) := fun z hz => hz ▸ HZ.out
    obtain ⟨z, hz⟩ : ∃ z, z = codeM n es := ⟨_, rfl⟩
    have Z := Q z hz
    have HZ1 := Aside0.mk hz
    rw [← hz]
    clear HZ Q hz
    rcases Z with rfl | rfl | rfl
    all_goals (
      go_wp2_with fail
      refine (refNew_any n A c es w2 C2.out (by omega)).mono ?_
      rintro e w3 ⟨b3, ⟨h, rfl⟩ | ⟨h, _⟩⟩
      case inr => exact absurd h H'.out
      rw [← HZ1.out]
      have B3 := Aside0.mk (below_then B2.out B2.out.size b3)
      have NG3 := Aside0.mk (blk_below NG2.out b3)
      clear b3 h
      have hfz3 := blk_frozen NG3.out 0
      have hcz3 : w3.cell? ⟨gb, 0, none⟩ = some (.slice none 0 0) := (blk_cell NG3.out 0).trans rfl
      go_wp2_with fail
      obtain ⟨w4, hw4⟩ : ∃ w4, w3.alloc (.cells #[.slice none 0 0] 31) = w4 := ⟨_, rfl⟩
      have N4 : Aside0 (w4.heap[w3.heap.size]? = some (.cells #[.slice none 0 0] 31 (0, 0))) := ⟨by rw [← hw4]; exact blk_new w3 _⟩
      have b4 : Below w3.heap.size w3 w4 := by rw [← hw4]; exact below_alloc (Below.refl _ _) _
      have B4 := Aside0.mk (below_then B3.out B3.out.size b4)
      have NG4 := Aside0.mk (blk_below NG3.out b4)
      rw [hw4]
      clear hw4 b4 hfz3 hcz3
      obtain ⟨mb, hmb⟩ : ∃ mb, w3.heap.size = mb := ⟨_, rfl⟩
      rw [hmb] at N4
      simp only [hmb]
      have c4 : w4.cell? ⟨mb, 0, none⟩ = some (.slice none 0 0) := (blk_cell N4.out 0).trans rfl
      have NG5 : Aside0 (w4.drew.heap[gb]? = some (.cells #[.slice none 0 0] 31 (0, 0))) := ⟨NG4.out⟩
      have N5 : Aside0 (w4.drew.heap[mb]? = some (.cells #[.slice none 0 0] 31 (0, 0))) := ⟨N4.out⟩
      have hne : mb ≠ gb := by have := blk_lt NG3.out; omega
      have hfz4 := blk_frozen NG5.out 0
      have hcz4 : w4.drew.cell? ⟨gb, 0, none⟩ = some (.slice none 0 0) := (blk_cell NG5.out 0).trans rfl
      have CM : Aside0 ((w4.drew.setCell ⟨gb, 0, none⟩ (.slice none 0 0)).cell? ⟨mb, 0, none⟩ = some (.slice none 0 0)) := ⟨(blk_cell (blk_far N5.out (p := ⟨gb, 0, none⟩) hne _) 0).trans rfl⟩
      have BR5 : Aside0 (Below w.heap.size w (w4.drew.setCell ⟨gb, 0, none⟩ (.slice none 0 0))) := ⟨below_set (below_drew B4.out) HGL.out⟩
      clear hmb hne
      refine wp_region_held_drew (S := fun w' : World => w'.cell? ⟨mb, 0, none⟩ = some (.slice none 0 0)) (by kernel_rfl) (c4) (fun hHeld => ?_)
      refine wpAnyH_take (i := 0) (oi := { dst := some 46, op := Op.move (Operand.tmp 6), type := 28, pos := "law.go:41", after := #[], guard := none }) (v := ?_) rfl (by kernel_rfl) (by kernel_rfl) (by kernel_rfl) (fun _ _ _ h => h) (Or.inl ⟨by rfl, ?_⟩) (by first | assumption | trivial) ?_
      rotate_left
      · first | (intro w hSw; (try dsimp only at hSw); go_simp; done) | (intro w hSw; (try dsimp only at hSw); go_simp; with_reducible rfl)
      try simp only [Act.put, List.setIfInBounds_toArray, List.set_cons_zero, List.set_cons_succ]
      refine wpAnyH_take (i := 1) (oi := { dst := some 47, op := Op.load 31 (Operand.tmp 8), type := 31, pos := "law.go:41", after := #[{ on := 12, ground := Ground.gcOnly Departure.lateStores }], guard := none }) (v := ?_) rfl (by kernel_rfl) (by kernel_rfl) (by kernel_rfl) (fun _ _ _ h => h) (Or.inl ⟨by rfl, ?_⟩) (by first | assumption | trivial) ?_
      rotate_left
      · first | (intro w hSw; (try dsimp only at hSw); go_simp; done) | (intro w hSw; (try dsimp only at hSw); go_simp; with_reducible rfl)
      try simp only [Act.put, List.setIfInBounds_toArray, List.set_cons_zero, List.set_cons_succ]
      refine wpAnyH_take (i := 2) (oi := { dst := some 48, op := Op.move (Operand.tmp 7), type := 34, pos := "law.go:41", after := #[], guard := none }) (v := ?_) rfl (by kernel_rfl) (by kernel_rfl) (by kernel_rfl) (fun _ _ _ h => h) (Or.inl ⟨by rfl, ?_⟩) (by first | assumption | trivial) ?_
      rotate_left
      · first | (intro w hSw; (try dsimp only at hSw); go_simp; done) | (intro w hSw; (try dsimp only at hSw); go_simp; with_reducible rfl)
      try simp only [Act.put, List.setIfInBounds_toArray, List.set_cons_zero, List.set_cons_succ]
      refine wpAnyH_take (i := 3) (oi := { dst := some 49, op := Op.binOp BinOp.eql 34 (Operand.tmp 48) (Operand.const (Value.int IntKind.i64 0)) 34, type := 4, pos := "law.go:41", after := #[{ on := 2, ground := Ground.data }], guard := none }) (v := ?_) rfl (by kernel_rfl) (by kernel_rfl) (by kernel_rfl) (fun _ _ _ h => h) (Or.inl ⟨by rfl, ?_⟩) (by first | assumption | trivial) ?_
      rotate_left
      · first | (intro w hSw; (try dsimp only at hSw); go_simp; done) | (intro w hSw; (try dsimp only at hSw); go_simp; with_reducible rfl)
      try simp only [Act.put, List.setIfInBounds_toArray, List.set_cons_zero, List.set_cons_succ]
      refine wpAnyH_take (i := 4) (oi := { dst := some 50, op := Op.move (Operand.tmp 49), type := 4, pos := "law.go:41", after := #[{ on := 3, ground := Ground.data }], guard := none }) (v := ?_) rfl (by kernel_rfl) (by kernel_rfl) (by kernel_rfl) (fun _ _ _ h => h) (Or.inl ⟨by rfl, ?_⟩) (by first | assumption | trivial) ?_
      rotate_left
      · first | (intro w hSw; (try dsimp only at hSw); go_simp; done) | (intro w hSw; (try dsimp only at hSw); go_simp; with_reducible rfl)
      try simp only [Act.put, List.setIfInBounds_toArray, List.set_cons_zero, List.set_cons_succ]
      refine wpAnyH_take (i := 5) (oi := { dst := some 51, op := Op.move (Operand.tmp 9), type := 34, pos := "law.go:41", after := #[{ on := 4, ground := Ground.guard }], guard := some (4, true) }) (v := undef) rfl (by kernel_rfl) (by kernel_rfl) (by kernel_rfl) (fun _ _ _ h => h) (Or.inr ⟨by rfl, rfl⟩) (by first | assumption | trivial) ?_
      try simp only [Act.put, List.setIfInBounds_toArray, List.set_cons_zero, List.set_cons_succ]
      refine wpAnyH_take (i := 6) (oi := { dst := some 52, op := Op.binOp BinOp.eql 34 (Operand.tmp 51) (Operand.const (Value.int IntKind.i64 0)) 34, type := 4, pos := "law.go:41", after := #[{ on := 5, ground := Ground.data }, { on := 4, ground := Ground.guard }], guard := some (4, true) }) (v := undef) rfl (by kernel_rfl) (by kernel_rfl) (by kernel_rfl) (fun _ _ _ h => h) (Or.inr ⟨by rfl, rfl⟩) (by first | assumption | trivial) ?_
      try simp only [Act.put, List.setIfInBounds_toArray, List.set_cons_zero, List.set_cons_succ]
      refine wpAnyH_take (i := 7) (oi := { dst := some 53, op := Op.pick (Operand.tmp 50) (Operand.tmp 52) (Operand.const (Value.bool false)), type := 4, pos := "law.go:41", after := #[{ on := 4, ground := Ground.data }, { on := 6, ground := Ground.data }], guard := none }) (v := ?_) rfl (by kernel_rfl) (by kernel_rfl) (by kernel_rfl) (fun _ _ _ h => h) (Or.inl ⟨by rfl, ?_⟩) (by first | assumption | trivial) ?_
      rotate_left
      · first | (intro w hSw; (try dsimp only at hSw); go_simp; done) | (intro w hSw; (try dsimp only at hSw); go_simp; with_reducible rfl)
      try simp only [Act.put, List.setIfInBounds_toArray, List.set_cons_zero, List.set_cons_succ]
      refine wpAnyH_take (i := 8) (oi := { dst := some 54, op := Op.move (Operand.tmp 53), type := 4, pos := "law.go:41", after := #[{ on := 7, ground := Ground.data }, { on := 4, ground := Ground.chain }], guard := none }) (v := ?_) rfl (by kernel_rfl) (by kernel_rfl) (by kernel_rfl) (fun _ _ _ h => h) (Or.inl ⟨by rfl, ?_⟩) (by first | assumption | trivial) ?_
      rotate_left
      · first | (intro w hSw; (try dsimp only at hSw); go_simp; done) | (intro w hSw; (try dsimp only at hSw); go_simp; with_reducible rfl)
      try simp only [Act.put, List.setIfInBounds_toArray, List.set_cons_zero, List.set_cons_succ]
      refine wpAnyH_take (i := 9) (oi := { dst := some 55, op := Op.move (Operand.tmp 6), type := 28, pos := "law.go:41", after := #[{ on := 8, ground := Ground.guard }, { on := 13, ground := Ground.gcOnly Departure.lateStores }], guard := some (8, true) }) (v := undef) rfl (by kernel_rfl) (by kernel_rfl) (by kernel_rfl) (fun _ _ _ h => h) (Or.inr ⟨by rfl, rfl⟩) (by first | assumption | trivial) ?_
      try simp only [Act.put, List.setIfInBounds_toArray, List.set_cons_zero, List.set_cons_succ]
      refine wpAnyH_take (i := 10) (oi := { dst := some 56, op := Op.binOp BinOp.neq 28 (Operand.tmp 55) (Operand.const (Value.pointer none)) 28, type := 4, pos := "law.go:41", after := #[{ on := 9, ground := Ground.data }, { on := 8, ground := Ground.guard }, { on := 13, ground := Ground.gcOnly Departure.lateStores }], guard := some (8, true) }) (v := undef) rfl (by kernel_rfl) (by kernel_rfl) (by kernel_rfl) (fun _ _ _ h => h) (Or.inr ⟨by rfl, rfl⟩) (by first | assumption | trivial) ?_
      try simp only [Act.put, List.setIfInBounds_toArray, List.set_cons_zero, List.set_cons_succ]
      refine wpAnyH_take (i := 11) (oi := { dst := some 57, op := Op.pick (Operand.tmp 54) (Operand.tmp 56) (Operand.const (Value.bool false)), type := 4, pos := "law.go:41", after := #[{ on := 8, ground := Ground.data }, { on := 10, ground := Ground.data }, { on := 13, ground := Ground.gcOnly Departure.lateStores }], guard := none }) (v := ?_) rfl (by kernel_rfl) (by kernel_rfl) (by kernel_rfl) (fun _ _ _ h => h) (Or.inl ⟨by rfl, ?_⟩) (by first | assumption | trivial) ?_
      rotate_left
      · first | (intro w hSw; (try dsimp only at hSw); go_simp; done) | (intro w hSw; (try dsimp only at hSw); go_simp; with_reducible rfl)
      try simp only [Act.put, List.setIfInBounds_toArray, List.set_cons_zero, List.set_cons_succ]
      refine wpAnyH_take (i := 12) (oi := { dst := some 2, op := Op.assign (Operand.tmp 46), type := 28, pos := "law.go:41", after := #[{ on := 0, ground := Ground.data }, { on := 8, ground := Ground.chain }, { on := 0, ground := Ground.phase }, { on := 1, ground := Ground.textOnly Departure.lateStores }, { on := 2, ground := Ground.textOnly Departure.lateStores }, { on := 3, ground := Ground.textOnly Departure.lateStores }, { on := 4, ground := Ground.textOnly Departure.lateStores }, { on := 5, ground := Ground.textOnly Departure.lateStores }, { on := 6, ground := Ground.textOnly Departure.lateStores }, { on := 7, ground := Ground.textOnly Departure.lateStores }, { on := 8, ground := Ground.textOnly Departure.lateStores }, { on := 9, ground := Ground.textOnly Departure.lateStores }, { on := 10, ground := Ground.textOnly Departure.lateStores }, { on := 11, ground := Ground.textOnly Departure.lateStores }], guard := none }) (v := ?_) rfl (by kernel_rfl) (by kernel_rfl) (by kernel_rfl) (fun _ _ _ h => h) (Or.inl ⟨by rfl, ?_⟩) (by first | assumption | trivial) ?_
      rotate_left
      · first | (intro w hSw; (try dsimp only at hSw); go_simp; done) | (intro w hSw; (try dsimp only at hSw); go_simp; with_reducible rfl)
      try simp only [Act.put, List.setIfInBounds_toArray, List.set_cons_zero, List.set_cons_succ]
      refine wpAnyH_ready (rs := [13]) (by kernel_rfl) (by simp) ?_
      refine AllReadyH.cons (o := { dst := none, op := Op.store 31 (Operand.tmp 3) (Operand.tmp 47), type := 0, pos := "law.go:41", after := #[{ on := 1, ground := Ground.data }, { on := 12, ground := Ground.chain }, { on := 0, ground := Ground.phase }, { on := 1, ground := Ground.phase }, { on := 2, ground := Ground.textOnly Departure.lateStores }, { on := 3, ground := Ground.textOnly Departure.lateStores }, { on := 4, ground := Ground.textOnly Departure.lateStores }, { on := 5, ground := Ground.textOnly Departure.lateStores }, { on := 6, ground := Ground.textOnly Departure.lateStores }, { on := 7, ground := Ground.textOnly Departure.lateStores }, { on := 8, ground := Ground.textOnly Departure.lateStores }, { on := 9, ground := Ground.textOnly Departure.lateStores }, { on := 10, ground := Ground.textOnly Departure.lateStores }, { on := 11, ground := Ground.textOnly Departure.lateStores }, { on := 12, ground := Ground.phase }], guard := none }) rfl (fun K hK => ?_) AllReadyH.nil
      go_simp
      refine hK.out _ _ ?_ (fun hHeld => ?_)
      · exact CM.out
      clear hK K
      try simp only [Act.put, List.setIfInBounds_toArray, List.set_cons_zero, List.set_cons_succ]
      refine wpAnyH_take (i := 14) (oi := { dst := some 4, op := Op.assign (Operand.tmp 57), type := 4, pos := "law.go:41", after := #[{ on := 11, ground := Ground.data }, { on := 13, ground := Ground.chain }, { on := 0, ground := Ground.phase }, { on := 1, ground := Ground.phase }, { on := 2, ground := Ground.phase }, { on := 3, ground := Ground.phase }, { on := 4, ground := Ground.phase }, { on := 5, ground := Ground.phase }, { on := 6, ground := Ground.phase }, { on := 7, ground := Ground.phase }, { on := 8, ground := Ground.phase }, { on := 9, ground := Ground.phase }, { on := 10, ground := Ground.phase }, { on := 11, ground := Ground.phase }, { on := 12, ground := Ground.phase }, { on := 13, ground := Ground.phase }], guard := none }) (v := ?_) rfl (by kernel_rfl) (by kernel_rfl) (by kernel_rfl) (fun _ _ _ h => h) (Or.inl ⟨by rfl, ?_⟩) (by first | assumption | trivial) ?_
      rotate_left
      · first | (intro w hSw; (try dsimp only at hSw); go_simp; done) | (intro w hSw; (try dsimp only at hSw); go_simp; with_reducible rfl)
      try simp only [Act.put, List.setIfInBounds_toArray, List.set_cons_zero, List.set_cons_succ]
      refine wpAnyH_done (by kernel_rfl) ?_ _
      go_wp2_with fail
      refine bodyPost_ret (results_tct rfl _ _ gb 31 #[.slice none 0 0] (0, 0) _ rfl (blk_set NG5.out 0 _) Try.underlying31 rfl (by kernel_rfl)) rfl ?_
      exact ⟨by first | exact BR5.out | (rw [← HP.out]; exact BR5.out), .inl ⟨_, _, _, _, rfl⟩⟩)
  have HK' := Aside0.mk HK
  have T2 := Aside0.mk T
  clear T
  go_wp2_with fail
  refine (refNew_any n A c es w2 C2.out (by omega)).mono ?_
  rintro e w3 ⟨b3, ⟨h, rfl⟩ | ⟨h, A', c', bs, rfl, HL, hbl⟩⟩
  case inl => exact absurd HK'.out h
  have HGS : Aside0 (gb < w2.heap.size) := ⟨blk_lt NG2.out⟩
  have B3 := Aside0.mk (below_then B2.out B2.out.size b3)
  have NG3 := Aside0.mk (blk_below NG2.out b3)
  have T3 := Aside0.mk (T2.out.below b3)
  have HL3 := Aside0.mk HL
  clear b3 h HL
  have hfz3 := blk_frozen NG3.out 0
  have hcz3 : w3.cell? ⟨gb, 0, none⟩ = some (.slice none 0 0) := (blk_cell NG3.out 0).trans rfl
  go_wp2_with fail
  obtain ⟨w4, hw4⟩ : ∃ w4, w3.alloc (.cells #[.slice A' n.toNat c'] 31) = w4 := ⟨_, rfl⟩
  have N4 : Aside0 (w4.heap[w3.heap.size]? = some (.cells #[.slice A' n.toNat c'] 31 (0, 0))) := ⟨by rw [← hw4]; exact blk_new w3 _⟩
  have b4 : Below w3.heap.size w3 w4 := by rw [← hw4]; exact below_alloc (Below.refl _ _) _
  have B4 := Aside0.mk (below_then B3.out B3.out.size b4)
  have NG4 := Aside0.mk (blk_below NG3.out b4)
  have T4 := Aside0.mk (T3.out.below b4)
  have HL4 := Aside0.mk (HL3.out.below b4)
  rw [hw4]
  clear hw4 b4 hfz3 hcz3
  obtain ⟨mb, hmb⟩ : ∃ mb, w3.heap.size = mb := ⟨_, rfl⟩
  rw [hmb] at N4
  simp only [hmb]
  have c4 : w4.cell? ⟨mb, 0, none⟩ = some (.slice A' n.toNat c') := (blk_cell N4.out 0).trans rfl
  have NG5 : Aside0 (w4.drew.heap[gb]? = some (.cells #[.slice none 0 0] 31 (0, 0))) := ⟨NG4.out⟩
  have N5 : Aside0 (w4.drew.heap[mb]? = some (.cells #[.slice A' n.toNat c'] 31 (0, 0))) := ⟨N4.out⟩
  have hne : mb ≠ gb := by have := blk_lt NG3.out; omega
  have hfz4 := blk_frozen NG5.out 0
  have hcz4 : w4.drew.cell? ⟨gb, 0, none⟩ = some (.slice none 0 0) := (blk_cell NG5.out 0).trans rfl
  have CM : Aside0 ((w4.drew.setCell ⟨gb, 0, none⟩ (.slice A' n.toNat c')).cell? ⟨mb, 0, none⟩ = some (.slice A' n.toNat c')) := ⟨(blk_cell (blk_far N5.out (p := ⟨gb, 0, none⟩) hne _) 0).trans rfl⟩
  have BR5 : Aside0 (Below w.heap.size w (w4.drew.setCell ⟨gb, 0, none⟩ (.slice A' n.toNat c'))) := ⟨below_set (below_drew B4.out) HGL.out⟩
  clear hmb hne
  refine wp_region_held_drew (S := fun w' : World => w'.cell? ⟨mb, 0, none⟩ = some (.slice A' n.toNat c')) (by kernel_rfl) (c4) (fun hHeld => ?_)
  refine wpAnyH_take (i := 0) (oi := { dst := some 46, op := Op.move (Operand.tmp 6), type := 28, pos := "law.go:41", after := #[], guard := none }) (v := ?_) rfl (by kernel_rfl) (by kernel_rfl) (by kernel_rfl) (fun _ _ _ h => h) (Or.inl ⟨by rfl, ?_⟩) (by first | assumption | trivial) ?_
  rotate_left
  · first | (intro w hSw; (try dsimp only at hSw); go_simp; done) | (intro w hSw; (try dsimp only at hSw); go_simp; with_reducible rfl)
  try simp only [Act.put, List.setIfInBounds_toArray, List.set_cons_zero, List.set_cons_succ]
  refine wpAnyH_take (i := 1) (oi := { dst := some 47, op := Op.load 31 (Operand.tmp 8), type := 31, pos := "law.go:41", after := #[{ on := 12, ground := Ground.gcOnly Departure.lateStores }], guard := none }) (v := ?_) rfl (by kernel_rfl) (by kernel_rfl) (by kernel_rfl) (fun _ _ _ h => h) (Or.inl ⟨by rfl, ?_⟩) (by first | assumption | trivial) ?_
  rotate_left
  · first | (intro w hSw; (try dsimp only at hSw); go_simp; done) | (intro w hSw; (try dsimp only at hSw); go_simp; with_reducible rfl)
  try simp only [Act.put, List.setIfInBounds_toArray, List.set_cons_zero, List.set_cons_succ]
  refine wpAnyH_take (i := 2) (oi := { dst := some 48, op := Op.move (Operand.tmp 7), type := 34, pos := "law.go:41", after := #[], guard := none }) (v := ?_) rfl (by kernel_rfl) (by kernel_rfl) (by kernel_rfl) (fun _ _ _ h => h) (Or.inl ⟨by rfl, ?_⟩) (by first | assumption | trivial) ?_
  rotate_left
  · first | (intro w hSw; (try dsimp only at hSw); go_simp; done) | (intro w hSw; (try dsimp only at hSw); go_simp; with_reducible rfl)
  try simp only [Act.put, List.setIfInBounds_toArray, List.set_cons_zero, List.set_cons_succ]
  refine wpAnyH_take (i := 3) (oi := { dst := some 49, op := Op.binOp BinOp.eql 34 (Operand.tmp 48) (Operand.const (Value.int IntKind.i64 0)) 34, type := 4, pos := "law.go:41", after := #[{ on := 2, ground := Ground.data }], guard := none }) (v := ?_) rfl (by kernel_rfl) (by kernel_rfl) (by kernel_rfl) (fun _ _ _ h => h) (Or.inl ⟨by rfl, ?_⟩) (by first | assumption | trivial) ?_
  rotate_left
  · first | (intro w hSw; (try dsimp only at hSw); go_simp; done) | (intro w hSw; (try dsimp only at hSw); go_simp; with_reducible rfl)
  try simp only [Act.put, List.setIfInBounds_toArray, List.set_cons_zero, List.set_cons_succ]
  refine wpAnyH_take (i := 4) (oi := { dst := some 50, op := Op.move (Operand.tmp 49), type := 4, pos := "law.go:41", after := #[{ on := 3, ground := Ground.data }], guard := none }) (v := ?_) rfl (by kernel_rfl) (by kernel_rfl) (by kernel_rfl) (fun _ _ _ h => h) (Or.inl ⟨by rfl, ?_⟩) (by first | assumption | trivial) ?_
  rotate_left
  · first | (intro w hSw; (try dsimp only at hSw); go_simp; done) | (intro w hSw; (try dsimp only at hSw); go_simp; with_reducible rfl)
  try simp only [Act.put, List.setIfInBounds_toArray, List.set_cons_zero, List.set_cons_succ]
  refine wpAnyH_take (i := 5) (oi := { dst := some 51, op := Op.move (Operand.tmp 9), type := 34, pos := "law.go:41", after := #[{ on := 4, ground := Ground.guard }], guard := some (4, true) }) (v := ?_) rfl (by kernel_rfl) (by kernel_rfl) (by kernel_rfl) (fun _ _ _ h => h) (Or.inl ⟨by rfl, ?_⟩) (by first | assumption | trivial) ?_
  rotate_left
  · first | (intro w hSw; (try dsimp only at hSw); go_simp; done) | (intro w hSw; (try dsimp only at hSw); go_simp; with_reducible rfl)
  try simp only [Act.put, List.setIfInBounds_toArray, List.set_cons_zero, List.set_cons_succ]
  refine wpAnyH_take (i := 6) (oi := { dst := some 52, op := Op.binOp BinOp.eql 34 (Operand.tmp 51) (Operand.const (Value.int IntKind.i64 0)) 34, type := 4, pos := "law.go:41", after := #[{ on := 5, ground := Ground.data }, { on := 4, ground := Ground.guard }], guard := some (4, true) }) (v := ?_) rfl (by kernel_rfl) (by kernel_rfl) (by kernel_rfl) (fun _ _ _ h => h) (Or.inl ⟨by rfl, ?_⟩) (by first | assumption | trivial) ?_
  rotate_left
  · first | (intro w hSw; (try dsimp only at hSw); go_simp; done) | (intro w hSw; (try dsimp only at hSw); go_simp; with_reducible rfl)
  try simp only [Act.put, List.setIfInBounds_toArray, List.set_cons_zero, List.set_cons_succ]
  refine wpAnyH_take (i := 7) (oi := { dst := some 53, op := Op.pick (Operand.tmp 50) (Operand.tmp 52) (Operand.const (Value.bool false)), type := 4, pos := "law.go:41", after := #[{ on := 4, ground := Ground.data }, { on := 6, ground := Ground.data }], guard := none }) (v := ?_) rfl (by kernel_rfl) (by kernel_rfl) (by kernel_rfl) (fun _ _ _ h => h) (Or.inl ⟨by rfl, ?_⟩) (by first | assumption | trivial) ?_
  rotate_left
  · first | (intro w hSw; (try dsimp only at hSw); go_simp; done) | (intro w hSw; (try dsimp only at hSw); go_simp; with_reducible rfl)
  try simp only [Act.put, List.setIfInBounds_toArray, List.set_cons_zero, List.set_cons_succ]
  refine wpAnyH_take (i := 8) (oi := { dst := some 54, op := Op.move (Operand.tmp 53), type := 4, pos := "law.go:41", after := #[{ on := 7, ground := Ground.data }, { on := 4, ground := Ground.chain }], guard := none }) (v := ?_) rfl (by kernel_rfl) (by kernel_rfl) (by kernel_rfl) (fun _ _ _ h => h) (Or.inl ⟨by rfl, ?_⟩) (by first | assumption | trivial) ?_
  rotate_left
  · first | (intro w hSw; (try dsimp only at hSw); go_simp; done) | (intro w hSw; (try dsimp only at hSw); go_simp; with_reducible rfl)
  try simp only [Act.put, List.setIfInBounds_toArray, List.set_cons_zero, List.set_cons_succ]
  refine wpAnyH_take (i := 9) (oi := { dst := some 55, op := Op.move (Operand.tmp 6), type := 28, pos := "law.go:41", after := #[{ on := 8, ground := Ground.guard }, { on := 13, ground := Ground.gcOnly Departure.lateStores }], guard := some (8, true) }) (v := ?_) rfl (by kernel_rfl) (by kernel_rfl) (by kernel_rfl) (fun _ _ _ h => h) (Or.inl ⟨by rfl, ?_⟩) (by first | assumption | trivial) ?_
  rotate_left
  · first | (intro w hSw; (try dsimp only at hSw); go_simp; done) | (intro w hSw; (try dsimp only at hSw); go_simp; with_reducible rfl)
  try simp only [Act.put, List.setIfInBounds_toArray, List.set_cons_zero, List.set_cons_succ]
  refine wpAnyH_take (i := 10) (oi := { dst := some 56, op := Op.binOp BinOp.neq 28 (Operand.tmp 55) (Operand.const (Value.pointer none)) 28, type := 4, pos := "law.go:41", after := #[{ on := 9, ground := Ground.data }, { on := 8, ground := Ground.guard }, { on := 13, ground := Ground.gcOnly Departure.lateStores }], guard := some (8, true) }) (v := ?_) rfl (by kernel_rfl) (by kernel_rfl) (by kernel_rfl) (fun _ _ _ h => h) (Or.inl ⟨by rfl, ?_⟩) (by first | assumption | trivial) ?_
  rotate_left
  · first | (intro w hSw; (try dsimp only at hSw); go_simp; done) | (intro w hSw; (try dsimp only at hSw); go_simp; with_reducible rfl)
  try simp only [Act.put, List.setIfInBounds_toArray, List.set_cons_zero, List.set_cons_succ]
  refine wpAnyH_take (i := 11) (oi := { dst := some 57, op := Op.pick (Operand.tmp 54) (Operand.tmp 56) (Operand.const (Value.bool false)), type := 4, pos := "law.go:41", after := #[{ on := 8, ground := Ground.data }, { on := 10, ground := Ground.data }, { on := 13, ground := Ground.gcOnly Departure.lateStores }], guard := none }) (v := ?_) rfl (by kernel_rfl) (by kernel_rfl) (by kernel_rfl) (fun _ _ _ h => h) (Or.inl ⟨by rfl, ?_⟩) (by first | assumption | trivial) ?_
  rotate_left
  · first | (intro w hSw; (try dsimp only at hSw); go_simp; done) | (intro w hSw; (try dsimp only at hSw); go_simp; with_reducible rfl)
  try simp only [Act.put, List.setIfInBounds_toArray, List.set_cons_zero, List.set_cons_succ]
  refine wpAnyH_take (i := 12) (oi := { dst := some 2, op := Op.assign (Operand.tmp 46), type := 28, pos := "law.go:41", after := #[{ on := 0, ground := Ground.data }, { on := 8, ground := Ground.chain }, { on := 0, ground := Ground.phase }, { on := 1, ground := Ground.textOnly Departure.lateStores }, { on := 2, ground := Ground.textOnly Departure.lateStores }, { on := 3, ground := Ground.textOnly Departure.lateStores }, { on := 4, ground := Ground.textOnly Departure.lateStores }, { on := 5, ground := Ground.textOnly Departure.lateStores }, { on := 6, ground := Ground.textOnly Departure.lateStores }, { on := 7, ground := Ground.textOnly Departure.lateStores }, { on := 8, ground := Ground.textOnly Departure.lateStores }, { on := 9, ground := Ground.textOnly Departure.lateStores }, { on := 10, ground := Ground.textOnly Departure.lateStores }, { on := 11, ground := Ground.textOnly Departure.lateStores }], guard := none }) (v := ?_) rfl (by kernel_rfl) (by kernel_rfl) (by kernel_rfl) (fun _ _ _ h => h) (Or.inl ⟨by rfl, ?_⟩) (by first | assumption | trivial) ?_
  rotate_left
  · first | (intro w hSw; (try dsimp only at hSw); go_simp; done) | (intro w hSw; (try dsimp only at hSw); go_simp; with_reducible rfl)
  try simp only [Act.put, List.setIfInBounds_toArray, List.set_cons_zero, List.set_cons_succ]
  refine wpAnyH_ready (rs := [13]) (by kernel_rfl) (by simp) ?_
  refine AllReadyH.cons (o := { dst := none, op := Op.store 31 (Operand.tmp 3) (Operand.tmp 47), type := 0, pos := "law.go:41", after := #[{ on := 1, ground := Ground.data }, { on := 12, ground := Ground.chain }, { on := 0, ground := Ground.phase }, { on := 1, ground := Ground.phase }, { on := 2, ground := Ground.textOnly Departure.lateStores }, { on := 3, ground := Ground.textOnly Departure.lateStores }, { on := 4, ground := Ground.textOnly Departure.lateStores }, { on := 5, ground := Ground.textOnly Departure.lateStores }, { on := 6, ground := Ground.textOnly Departure.lateStores }, { on := 7, ground := Ground.textOnly Departure.lateStores }, { on := 8, ground := Ground.textOnly Departure.lateStores }, { on := 9, ground := Ground.textOnly Departure.lateStores }, { on := 10, ground := Ground.textOnly Departure.lateStores }, { on := 11, ground := Ground.textOnly Departure.lateStores }, { on := 12, ground := Ground.phase }], guard := none }) rfl (fun K hK => ?_) AllReadyH.nil
  go_simp
  refine hK.out _ _ ?_ (fun hHeld => ?_)
  · exact CM.out
  clear hK K
  try simp only [Act.put, List.setIfInBounds_toArray, List.set_cons_zero, List.set_cons_succ]
  refine wpAnyH_take (i := 14) (oi := { dst := some 4, op := Op.assign (Operand.tmp 57), type := 4, pos := "law.go:41", after := #[{ on := 11, ground := Ground.data }, { on := 13, ground := Ground.chain }, { on := 0, ground := Ground.phase }, { on := 1, ground := Ground.phase }, { on := 2, ground := Ground.phase }, { on := 3, ground := Ground.phase }, { on := 4, ground := Ground.phase }, { on := 5, ground := Ground.phase }, { on := 6, ground := Ground.phase }, { on := 7, ground := Ground.phase }, { on := 8, ground := Ground.phase }, { on := 9, ground := Ground.phase }, { on := 10, ground := Ground.phase }, { on := 11, ground := Ground.phase }, { on := 12, ground := Ground.phase }, { on := 13, ground := Ground.phase }], guard := none }) (v := ?_) rfl (by kernel_rfl) (by kernel_rfl) (by kernel_rfl) (fun _ _ _ h => h) (Or.inl ⟨by rfl, ?_⟩) (by first | assumption | trivial) ?_
  rotate_left
  · first | (intro w hSw; (try dsimp only at hSw); go_simp; done) | (intro w hSw; (try dsimp only at hSw); go_simp; with_reducible rfl)
  try simp only [Act.put, List.setIfInBounds_toArray, List.set_cons_zero, List.set_cons_succ]
  refine wpAnyH_done (by kernel_rfl) ?_ _
  go_wp2_with fail
  refine bodyPost_ret (results_tct rfl _ _ gb 31 #[.slice A' n.toNat c'] (0, 0) _ rfl (blk_set NG5.out 0 _) Try.underlying31 rfl (by kernel_rfl)) rfl ?_
  exact ⟨by first | exact BR5.out | (rw [← HP.out]; exact BR5.out), .inr ⟨by omega, by omega, by omega, HK'.out, hb, ub, db, A', c', bs, rfl, (T4.out.below (below_drew (Below.refl _ _))).far31 NG5.out 0 _, LQ.lower (HL4.out.foot (((Foot.refl (fun k => k = gb) w4).drewN 1).setCell (p := ⟨gb, 0, none⟩) (fun _ => rfl) _) (fun k hk e => by have := HGS.out; omega)) (by first | (rw [HP.out]; have := HGS.out; have := HGL.out; rw [HP.out] at this; omega) | (have := HGS.out; have := HGL.out; omega)), hbl⟩⟩
end Go.Proofs.Ytpbaebjohioijaa.Lat
namespace Go.Proofs.Ytpbaebjohioijaa.Lat
open Go.RowKit Go.Proofs.YtpbaebjohioijaaW.PrintWords Go.Proofs.YtpbaebjohioijaaW.PrintLast Go.Proofs.YtpbaebjohioijaaW.PrintMore Go.Proofs.Ytpbaebjohioijaa.PSolveLeast
set_option linter.unusedVariables false
set_option linter.unusedSimpArgs false

theorem copyInts12 (A : Option Addr) (c : Nat) (xs : List Int) (w : World) (hr : Kd.C (Kd.int .i64) w A xs.length xs) (hl : xs.length ≤ 1000000) :
    Calls Try.prog 12 #[.slice A xs.length c] w fun e w' => ∃ B cB, e = .returned (.slice B xs.length cB) ∧ Kd.C (Kd.int .i64) w' B xs.length xs ∧ Below w.heap.size w w' := by
  have HR := Aside0.mk hr
  clear hr
  go_enter Try.func12, Try.ntmps12
  go_wp2_with (at_builtin; refine Kd.R_append_rows (Kd.int .i64) w.heap.size rfl (.tmp 5) (.tmp 6) 26 3 _ 8 rfl Try.underlying26 info3 rfl (by decide) (by decide) (.slice (some ⟨w.heap.size, 0, none⟩) 0 0) [] xs A xs.length c (fun _ => True) (fun _ => False) rfl rfl (lit_nil (Kd.int .i64) 3 w w.heap.size (Nat.le_refl _)) (Kd.C_below HR.out (below_alloc (Below.refl _ _) _)) (fun x cs h => h) (fun _ h => h.elim) (fun _ _ => trivial) (below_alloc (Below.refl _ _) _) (by simp) (by simp; omega) ?_; intro v1 w1 hv1 hb1 hg1 hat1)
  obtain ⟨B, cB, ev, _, hC⟩ := Kd.R_reads hv1
  rw [List.nil_append] at ev hC
  have HV := Aside0.mk hC
  have HB := Aside0.mk hb1
  subst ev
  clear hv1 hC hb1 hg1 hat1
  go_wp2
  go_ret
  exact ⟨B, cB, rfl, HV.out, HB.out⟩
/-- Least, of rules that are not right. -/
theorem least_no {w : World} {hb ub db n : Nat} {us ds : List Int} (h : TO w hb ub db n us ds) (nvI : Int) (A : Option Addr) (c : Nat) (cs : List S43) (hr : Kd.C k43 w A cs.length cs) (hm : cs.length ≤ 1000000) {rk : Int → Int} {H : Int} (hF : LF n us rk H) (hH : H ≤ 1000) (hR : rightS n nvI cs = false) :
    Calls Try.prog 9 #[.pointer (some ⟨hb, 0, none⟩), .int .i64 nvI, .slice A cs.length c] w fun e w' => e = .returned (.tuple #[.slice none 0 0, .int .i64 0, .int .i64 72]) ∧ Below w.heap.size w w' :=
  (least9 h nvI A c cs hr hm hF hH).mono fun e w' ⟨b, hh⟩ => by
    rcases hh with ⟨_, rfl⟩ | ⟨h1, _⟩
    · exact ⟨rfl, b⟩
    · rw [hR] at h1; cases h1
/-- Least, of rules that are right. -/
theorem least_yes {w : World} {hb ub db n : Nat} {us ds : List Int} (h : TO w hb ub db n us ds) (nvI : Int) (A : Option Addr) (c : Nat) (cs : List S43) (hr : Kd.C k43 w A cs.length cs) (hm : cs.length ≤ 1000000) {rk : Int → Int} {H : Int} (hF : LF n us rk H) (hH : H ≤ 1000) (hR : rightS n nvI cs = true) :
    Calls Try.prog 9 #[.pointer (some ⟨hb, 0, none⟩), .int .i64 nvI, .slice A cs.length c] w fun e w' => ∃ lb lv work, e = .returned (.tuple #[.slice (some ⟨lb, 0, none⟩) nvI.toNat nvI.toNat, .int .i64 work, .int .i64 0]) ∧ w'.heap[lb]? = some (.cells (nums .i64 lv).toArray 3 (0, 0)) ∧ LeastP n us H nvI.toNat cs lv work ∧ Below w.heap.size w w' :=
  (least9 h nvI A c cs hr hm hF hH).mono fun e w' ⟨b, hh⟩ => by
    rcases hh with ⟨h1, _⟩ | ⟨_, lb, lv, work, h1, h2, h3⟩
    · rw [hR] at h1; cases h1
    · exact ⟨lb, lv, work, h1, h2, h3, b⟩
theorem right_nat {n : Nat} {nv : Int} {cs : List S43} (h : rightS n nv cs = true) : ∃ m : Nat, nv = m := by
  unfold rightS at h
  rw [Bool.and_eq_true, decide_eq_true_eq] at h
  exact ⟨nv.toNat, by omega⟩
/-- What is laid out by order. -/
theorem order_lf {n : Int} {es : List (Int × Int)} (h : codeM n es = 0) : ∃ rk H, LF n.toNat (closE n.toNat es).1 rk H ∧ H ≤ 1000 := by
  obtain ⟨m, rfl, _, _, ys, rk, K, _, _, hF, hb⟩ := lf_code h
  rw [Int.toNat_natCast]
  exact ⟨rk, _, hF, hb⟩
end Go.Proofs.Ytpbaebjohioijaa.Lat
namespace Go.Proofs.Ytpbaebjohioijaa.Lat
open Go.RowKit Go.Proofs.YtpbaebjohioijaaW.PrintWords Go.Proofs.YtpbaebjohioijaaW.PrintLast Go.Proofs.YtpbaebjohioijaaW.PrintMore Go.Proofs.Ytpbaebjohioijaa.PSolveLeast
open Go.ChangeShapes Go.WideShapes
set_option linter.unusedVariables false
/-! ### Rules, read -/
def GI (n : Int) : Prop := (Lit.int .i64 n).wf = true
theorem o_edge : Opens Try.prog 48 KE (fun x => GI x.1 ∧ GI x.2) := opens_array2 Try.underlying48 (by kernel_rfl) o_int
theorem o_edges : Opens Try.prog 22 (Kd.slice 48 KE) (fun xs => ∀ x ∈ xs, GI x.1 ∧ GI x.2) := opens_slice Try.underlying22 (by kernel_rfl) o_edge
theorem o_ints : Opens Try.prog 26 (Kd.slice 3 (Kd.int .i64)) (fun xs => ∀ x ∈ xs, GI x) := opens_slice Try.underlying26 (by kernel_rfl) o_int
abbrev kRules : Kd (Int × List (Int × Int) × Int × List S43) := Kd.pair (Kd.int .i64) (Kd.pair (Kd.slice 48 KE) (Kd.pair (Kd.int .i64) (Kd.slice 43 k43)))
theorem o_rules : Opens Try.prog 25 (Kd.iso kRules (fun x => x)) (fun x => GI x.1 ∧ (∀ e ∈ x.2.1, GI e.1 ∧ GI e.2) ∧ GI x.2.2.1 ∧ ∀ c ∈ x.2.2.2, G43 c) :=
  by
  have h := opens_struct (fun x => x) (fun x => x) (fun _ => rfl) Try.underlying25 (by kernel_rfl) (OpensF.cons rfl o_int (OpensF.cons rfl o_edges (OpensF.cons rfl o_int (OpensF.one rfl o_cons))))
  exact h.imp (fun _ h => h)
set_option maxRecDepth 100000 in
/-- Rules handed in, opened. -/
theorem arg_rules {H : Type} {enc : TypeId × Value → H} {W : World} {base : Nat} {v : Value} (hv : Value.okWide Try.prog W .any base 25 v)
    {b : Nat} {sp : Nat → Bool} {hd : Bool} {x : DataW H} {p : List MemPlace} (h : DataW.Trod enc Try.prog W b sp hd 25 v x p) :
    ∃ (n nv : Int) (A B : Option Addr) (c cB : Nat) (es : List (Int × Int)) (cs : List S43), v = .agg #[.int .i64 n, .slice A es.length c, .int .i64 nv, .slice B cs.length cB] ∧ Kd.C KE W A es.length es ∧ Kd.C k43 W B cs.length cs := by
  obtain ⟨cells, rfl, _⟩ := okWide_struct Try.underlying25 hv
  obtain ⟨fuel, hf⟩ := h
  obtain ⟨⟨n, es, nv, cs⟩, hk, _⟩ := o_rules.out enc W b sp hd fuel _ _ hf
  obtain ⟨c1, r1, e1, k1, k2⟩ := hk
  obtain ⟨c2, r2, e2, ⟨A, c, k3, _, hE⟩, k4⟩ := k2
  obtain ⟨c3, r3, e3, k5, ⟨B, cB, k6, _, hC⟩⟩ := k4
  have k1 : c1 = [.int .i64 n] := k1
  have k5 : c3 = [.int .i64 nv] := k5
  subst k1 k3 k5 k6 e3 e2
  refine ⟨n, nv, A, B, c, cB, es, cs, ?_, hE, hC⟩
  congr 1
  apply Array.toList_inj.1
  simpa [Value.cells] using e1
end Go.Proofs.Ytpbaebjohioijaa.Lat
