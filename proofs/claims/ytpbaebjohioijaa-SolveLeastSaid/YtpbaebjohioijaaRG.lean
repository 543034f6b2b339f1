import Derived.Test.YtpbaebjohioijaaRE
import Derived.Deep.RegionHeld3
import Derived.Laws.CopyOwn
namespace Go.Proofs.Ytpbaebjohioijaa.Lat
open Go.RowKit Go.Proofs.YtpbaebjohioijaaW.PrintWords Go.Proofs.YtpbaebjohioijaaW.PrintLast Go.Proofs.YtpbaebjohioijaaW.PrintMore Go.Proofs.Ytpbaebjohioijaa.PSolveLeast
set_option linter.unusedVariables false
set_option linter.unusedSimpArgs false

/-! ### The solver's state -/
structure Sv where
  base : Nat
  hb : Nat
  ub : Nat
  db : Nat
  n : Nat
  us : List Int
  ds : List Int
  Z : Nat → Prop
  sb : Nat
  lb : Nat
  yb : Nat
  rb : Nat
  nv : Nat
  vo : Value
def rdb (l : List Bool) (i : Nat) : Bool := l.getD i false
structure SS (p : Sv) (v : Value) (lv : List Int) (rdy : List Bool) (xs : List Int) (work : Int) (w : World) : Prop where
  ord : TO w p.hb p.ub p.db p.n p.us p.ds
  sbk : w.heap[p.sb]? = some (.cells #[.pointer (some ⟨p.hb, 0, none⟩), .slice (some ⟨p.lb, 0, none⟩) p.nv p.nv, p.vo, .pointer (some ⟨p.rb, 0, none⟩), .slice (some ⟨p.yb, 0, none⟩) p.nv p.nv, .int .i64 work] 69 (0, 0))
  lbk : w.heap[p.lb]? = some (.cells (nums .i64 lv).toArray 3 (0, 0))
  ybk : w.heap[p.yb]? = some (.cells (rdy.map Value.bool).toArray 4 (0, 0))
  row : HR p.Z p.base p.rb v xs w
  llen : lv.length = p.nv
  ylen : rdy.length = p.nv
  zlb : 0 < p.nv → ¬ p.Z p.lb
  zsb : ¬ p.Z p.sb
  zyb : ¬ p.Z p.yb
  zb : ∀ k, p.Z k → p.base ≤ k
  hub : p.hb < p.base ∧ p.ub < p.base ∧ p.db < p.base
  sbb : p.base ≤ p.sb ∧ p.base ≤ p.lb ∧ p.base ≤ p.yb
/-- What the solver may turn. -/
def SF (p : Sv) : Nat → Prop := fun k => k = p.sb ∨ k = p.lb ∨ k = p.yb ∨ k = p.rb ∨ p.Z k
variable {p : Sv} {v : Value} {lv : List Int} {rdy : List Bool} {xs : List Int} {work : Int} {w w' : World}
theorem SS.below (h : SS p v lv rdy xs work w) (b : Below w.heap.size w w') : SS p v lv rdy xs work w' :=
  ⟨h.ord.below b, blk_below h.sbk b, blk_below h.lbk b, blk_below h.ybk b, h.row.below b, h.llen, h.ylen, h.zlb, h.zsb, h.zyb, h.zb, h.hub, h.sbb⟩
theorem SS.drewN (h : SS p v lv rdy xs work w) (k : Nat) : SS p v lv rdy xs work (w.drewN k) := h.below (pw_below_drewN (Below.refl _ _) k)
theorem TO.foot {w w1 : World} {hb ub db n : Nat} {us ds : List Int} {S : Nat → Prop} (h : TO w hb ub db n us ds) (f : Foot S w w1) (h1 : ¬ S hb) (h2 : ¬ S ub) (h3 : ¬ S db) : TO w1 hb ub db n us ds :=
  ⟨f.blk h.hbk h1, ⟨f.blk h.u.bk h2, h.u.len⟩, ⟨f.blk h.d.bk h3, h.d.len⟩, h.ne, h.le8⟩
theorem SS.far (h : SS p v lv rdy xs work w) (k : Nat) (hk : SF p k) : ¬ k = p.hb ∧ ¬ k = p.ub ∧ ¬ k = p.db := by
  have h1 := h.hub
  have h2 := h.sbb
  have h3 := h.row.brb
  have : p.base ≤ k := by
    rcases hk with rfl | rfl | rfl | rfl | hz
    · exact h2.1
    · exact h2.2.1
    · exact h2.2.2
    · exact h3
    · exact h.zb k hz
  omega
theorem SS.ordf (h : SS p v lv rdy xs work w) (f : Foot (SF p) w w') : TO w' p.hb p.ub p.db p.n p.us p.ds :=
  h.ord.foot f (fun hk => (h.far _ hk).1 rfl) (fun hk => (h.far _ hk).2.1 rfl) (fun hk => (h.far _ hk).2.2 rfl)
theorem SS.nsl (h : SS p v lv rdy xs work w) : p.sb ≠ p.lb := blk_ne h.sbk h.lbk (by decide)
theorem SS.nsy (h : SS p v lv rdy xs work w) : p.sb ≠ p.yb := blk_ne h.sbk h.ybk (by decide)
theorem SS.nsr (h : SS p v lv rdy xs work w) : p.sb ≠ p.rb := blk_ne h.sbk h.row.box (by decide)
theorem SS.nly (h : SS p v lv rdy xs work w) : p.lb ≠ p.yb := blk_ne h.lbk h.ybk (by decide)
theorem SS.nlr (h : SS p v lv rdy xs work w) : p.lb ≠ p.rb := blk_ne h.lbk h.row.box (by decide)
theorem SS.nyr (h : SS p v lv rdy xs work w) : p.yb ≠ p.rb := blk_ne h.ybk h.row.box (by decide)
theorem HR.far {Z : Nat → Prop} {base rb : Nat} (h : HR Z base rb v xs w) (g i : Nat) (u : Value) (h1 : ¬ Z g) (h2 : rb ≠ g) : HR Z base rb v xs (w.setCell ⟨g, i, none⟩ u) :=
  ⟨blk_far h.box h2 u, Kd.R_far h.row (fun k hk e => h1 (by have e' : k = g := e; exact e' ▸ hk)) u, fun k hk => h.fresh k (by simpa [World.setCell] using hk), h.zrb, h.brb⟩
theorem SS.putw (h : SS p v lv rdy xs work w) (k : Int) : SS p v lv rdy xs k (w.setCell ⟨p.sb, 5, none⟩ (.int .i64 k)) := by
  refine ⟨h.ordf (((Foot.refl _ w).setCell (fun _ => .inl rfl) _)), ?_, blk_far h.lbk h.nsl.symm _, blk_far h.ybk h.nsy.symm _, h.row.far _ _ _ h.zsb h.nsr.symm, h.llen, h.ylen, h.zlb, h.zsb, h.zyb, h.zb, h.hub, h.sbb⟩
  rw [blk_set h.sbk 5 _]
  rfl
theorem SS.putl (h : SS p v lv rdy xs work w) (h0 : 0 < p.nv) (i : Nat) (x : Int) : SS p v (lv.set i x) rdy xs work (w.setCell ⟨p.lb, i, none⟩ (.int .i64 x)) := by
  refine ⟨h.ordf (((Foot.refl _ w).setCell (fun _ => .inr (.inl rfl)) _)), blk_far h.sbk h.nsl _, ?_, blk_far h.ybk h.nly.symm _, h.row.far _ _ _ (h.zlb h0) h.nlr.symm, by rw [List.length_set]; exact h.llen, h.ylen, h.zlb, h.zsb, h.zyb, h.zb, h.hub, h.sbb⟩
  rw [blk_set h.lbk i _]
  congr 2
  apply Array.ext'
  simp [nums, List.map_set]
theorem SS.puty (h : SS p v lv rdy xs work w) (i : Nat) (x : Bool) : SS p v lv (rdy.set i x) xs work (w.setCell ⟨p.yb, i, none⟩ (.bool x)) := by
  refine ⟨h.ordf (((Foot.refl _ w).setCell (fun _ => .inr (.inr (.inl rfl))) _)), blk_far h.sbk h.nsy _, blk_far h.lbk h.nly _, ?_, h.row.far _ _ _ h.zyb h.nyr.symm, h.llen, by rw [List.length_set]; exact h.ylen, h.zlb, h.zsb, h.zyb, h.zb, h.hub, h.sbb⟩
  rw [blk_set h.ybk i _]
  congr 2
  apply Array.ext'
  simp [List.map_set]
theorem SS.rowf (h : SS p v lv rdy xs work w) (h0 : 0 < p.nv) {v1 : Value} {ys : List Int} (hr : HR p.Z p.base p.rb v1 ys w') (f : Foot (RF p.Z p.rb) w w') : SS p v1 lv rdy ys work w' := by
  have f2 : Foot (SF p) w w' := f.mono (fun k hk _ => hk.elim (fun e => .inr (.inr (.inr (.inl e)))) (fun e => .inr (.inr (.inr (.inr e)))))
  exact ⟨h.ordf f2, f.blk h.sbk (fun hk => hk.elim h.nsr h.zsb), f.blk h.lbk (fun hk => hk.elim h.nlr (h.zlb h0)), f.blk h.ybk (fun hk => hk.elim h.nyr h.zyb), hr, h.llen, h.ylen, h.zlb, h.zsb, h.zyb, h.zb, h.hub, h.sbb⟩
theorem SF.of_row {w1 w2 : World} (h : Foot (SF p) w w1) (f : Foot (RF p.Z p.rb) w1 w2) : Foot (SF p) w w2 :=
  h.trans f (fun k hk _ => hk.elim (fun e => .inr (.inr (.inr (.inl e)))) (fun e => .inr (.inr (.inr (.inr e)))))
theorem SS.lat (h : SS p v lv rdy xs work w) (i : Nat) (hi : i < p.nv) : w.cell? ⟨p.lb, i, none⟩ = some (.int .i64 (rd lv i)) ∧ w.frozen? ⟨p.lb, i, none⟩ = false := by
  refine ⟨(blk_cell h.lbk i).trans ?_, blk_frozen h.lbk i⟩
  have := h.llen
  simp [nums, rd, List.getD_eq_getElem?_getD, show i < lv.length from by omega]
theorem SS.yat (h : SS p v lv rdy xs work w) (i : Nat) (hi : i < p.nv) : w.cell? ⟨p.yb, i, none⟩ = some (.bool (rdb rdy i)) ∧ w.frozen? ⟨p.yb, i, none⟩ = false := by
  refine ⟨(blk_cell h.ybk i).trans ?_, blk_frozen h.ybk i⟩
  have := h.ylen
  simp [rdb, List.getD_eq_getElem?_getD, show i < rdy.length from by omega]
theorem SS.s0 (h : SS p v lv rdy xs work w) : w.cell? ⟨p.sb, 0, none⟩ = some (.pointer (some ⟨p.hb, 0, none⟩)) := blk_cell h.sbk 0
theorem SS.s1 (h : SS p v lv rdy xs work w) : w.cell? ⟨p.sb, 1, none⟩ = some (.slice (some ⟨p.lb, 0, none⟩) p.nv p.nv) := blk_cell h.sbk 1
theorem SS.s2 (h : SS p v lv rdy xs work w) : w.cell? ⟨p.sb, 2, none⟩ = some p.vo := blk_cell h.sbk 2
theorem SS.s3 (h : SS p v lv rdy xs work w) : w.cell? ⟨p.sb, 3, none⟩ = some (.pointer (some ⟨p.rb, 0, none⟩)) := blk_cell h.sbk 3
theorem SS.s4 (h : SS p v lv rdy xs work w) : w.cell? ⟨p.sb, 4, none⟩ = some (.slice (some ⟨p.yb, 0, none⟩) p.nv p.nv) := blk_cell h.sbk 4
theorem SS.s5 (h : SS p v lv rdy xs work w) : w.cell? ⟨p.sb, 5, none⟩ = some (.int .i64 work) := blk_cell h.sbk 5
/-- What one raise does. -/
def Raised (n : Nat) (us : List Int) (x : Nat) (l : Int) (lv : List Int) (rdy : List Bool) (xs : List Int) (lv' : List Int) (rdy' : List Bool) (xs' : List Int) : Prop :=
  (mostM n us l (rd lv x) = true ∧ lv' = lv ∧ rdy' = rdy ∧ xs' = xs) ∨
  (mostM n us l (rd lv x) = false ∧ lv' = lv.set x (allM n us [l, rd lv x]) ∧ ((rdb rdy x = true ∧ rdy' = rdy ∧ xs' = xs) ∨ (rdb rdy x = false ∧ rdy' = rdy.set x true ∧ xs'.Perm ((x : Int) :: xs))))
theorem two_ints (W : World) (a b : Int) : (Kd.int .i64).C (W.alloc (.cells #[.int .i64 a, .int .i64 b] 3)) (some ⟨W.heap.size, 0, none⟩) 2 [a, b] :=
  (Kd.R_reads' (Kd.R_of_own (enc := Value.int .i64) (h1 := fun _ => rfl) (base := W.heap.size) (ok := fun _ => True) (xs := [a, b]) (own_lit_of W W.heap.size 3 [a, b] (Nat.le_refl _) (by simp only [List.length_cons, List.length_nil]; omega)) (fun _ _ => trivial))).2.2
set_option maxRecDepth 100000 in
set_option maxHeartbeats 4000000 in
theorem raise24 (h : SS p v lv rdy xs work w) (x : Nat) (l : Int) (hx : x < p.nv) (hn : p.nv ≤ 1000000) (hw0 : 0 ≤ work) (hw1 : work ≤ 1000000000000000) (hxl : xs.length < 1000000) :
    Calls Try.prog 24 #[.pointer (some ⟨p.sb, 0, none⟩), .int .i64 x, .int .i64 l] w fun e w' => e = .returned (.tuple #[]) ∧ ∃ v' lv' rdy' xs', SS p v' lv' rdy' xs' (work + 1) w' ∧ Foot (SF p) w w' ∧ Raised p.n p.us x l lv rdy xs lv' rdy' xs' := by
  have c5 := h.s5
  have f5 : w.frozen? ⟨p.sb, 5, none⟩ = false := blk_frozen h.sbk 5
  have H1 := Aside0.mk (h.putw (work + 1))
  have F1 : Aside0 (Foot (SF p) w (w.setCell ⟨p.sb, 5, none⟩ (.int .i64 (work + 1)))) := ⟨(Foot.refl _ w).setCell (fun _ => .inl rfl) _⟩
  obtain ⟨w1, hw1'⟩ : ∃ w1, w.setCell ⟨p.sb, 5, none⟩ (.int .i64 (work + 1)) = w1 := ⟨_, rfl⟩
  rw [hw1'] at H1 F1
  clear h
  go_enter Try.func24, Try.ntmps24
  go_wp2_with fail
  clear c5 f5 hw1'
  obtain ⟨yl, hyl⟩ : ∃ y, rd lv x = y := ⟨_, rfl⟩
  obtain ⟨bm, hbm⟩ : ∃ b, mostM p.n p.us l yl = b := ⟨_, rfl⟩
  have cl := (H1.out.lat x hx).1
  rw [hyl] at cl
  have HYL := Aside0.mk hyl
  have HBM := Aside0.mk hbm
  have CM : Aside0 (∀ W, Aside0 (TO W p.hb p.ub p.db p.n p.us p.ds) → Calls Try.prog 13 #[.pointer (some ⟨p.hb, 0, none⟩), .int .i64 l, .int .i64 yl] W fun e w' => e = .returned (.bool bm) ∧ W = w') := ⟨fun W h => hbm ▸ most_any h.out l yl⟩
  have Z0 : Aside0 (TO w1.drew p.hb p.ub p.db p.n p.us p.ds) := ⟨H1.out.ord.below (below_drew (Below.refl _ _))⟩
  have s0 := H1.out.s0
  have s1 := H1.out.s1
  clear hyl hbm
  cases bm with
  | true =>
    first | (go_region_held3 (fun w' : World => w'.cell? ⟨p.sb, 0, none⟩ = some (.pointer (some ⟨p.hb, 0, none⟩)) ∧ w'.cell? ⟨p.sb, 1, none⟩ = some (.slice (some ⟨p.lb, 0, none⟩) p.nv p.nv) ∧ w'.cell? ⟨p.lb, x, none⟩ = some (.int .i64 yl))
      (first | exact ⟨s0, s1, cl⟩)
      (first | (go_at_call 13; with_reducible refine (CM.out _ (by assumption)).mono ?_; rintro e w' ⟨rfl, rfl⟩))) | fail
    go_wp2_with fail
    clear cl s0 s1 CM Z0
    refine bodyPost_ret (results_none rfl _ _ _) rfl ?_
    exact ⟨rfl, v, lv, rdy, xs, H1.out.drewN 1, F1.out.drewN 1, .inl ⟨by rw [HYL.out]; exact HBM.out, rfl, rfl, rfl⟩⟩
  | false =>
    first | (go_region_held3 (fun w' : World => w'.cell? ⟨p.sb, 0, none⟩ = some (.pointer (some ⟨p.hb, 0, none⟩)) ∧ w'.cell? ⟨p.sb, 1, none⟩ = some (.slice (some ⟨p.lb, 0, none⟩) p.nv p.nv) ∧ w'.cell? ⟨p.lb, x, none⟩ = some (.int .i64 yl))
      (first | exact ⟨s0, s1, cl⟩)
      (first | (go_at_call 13; with_reducible refine (CM.out _ (by assumption)).mono ?_; rintro e w' ⟨rfl, rfl⟩))) | fail
    go_wp2_with fail
    clear cl s0 s1 CM Z0
    have H2 := Aside0.mk (H1.out.drewN 1)
    have F2 := Aside0.mk (F1.out.drewN 1)
    obtain ⟨w2, hw2⟩ : ∃ w2, w1.drew = w2 := ⟨_, rfl⟩
    rw [show w1.drewN 1 = w2 from hw2] at H2 F2
    obtain ⟨wa, hwa⟩ : ∃ wa, w2.alloc (.cells #[.int .i64 l, .int .i64 yl] 3) = wa := ⟨_, rfl⟩
    obtain ⟨jn, hjn⟩ : ∃ j, allM p.n p.us [l, yl] = j := ⟨_, rfl⟩
    have ba : Below w2.heap.size w2 wa := by rw [← hwa]; exact below_alloc (Below.refl _ _) _
    have HA := Aside0.mk (H2.out.below ba)
    have FA := Aside0.mk (F2.out.trans (Foot.of_below (S := SF p) ba) (fun _ h _ => h))
    have TI : Aside0 ((Kd.int .i64).C wa (some ⟨w2.heap.size, 0, none⟩) 2 [l, yl]) := ⟨by rw [← hwa]; exact two_ints w2 l yl⟩
    have CJ : Aside0 (Calls Try.prog 48 #[.pointer (some ⟨p.hb, 0, none⟩), .slice (some ⟨w2.heap.size, 0, none⟩) 2 2] wa.drew fun e w' => e = .returned (.int .i64 jn) ∧ wa.drew = w') := ⟨by
      rw [← hjn]
      exact join_any (HA.out.drewN 1).ord (some ⟨w2.heap.size, 0, none⟩) [l, yl] 2 (by simp) (Kd.C_below TI.out (below_drew (Below.refl _ _))) (by simp)⟩
    have HP := Aside0.mk ((HA.out.putl (by omega) x jn).drewN 1)
    have FP := Aside0.mk (((FA.out.setCell (p := ⟨p.lb, x, none⟩) (fun _ => .inr (.inl rfl)) (.int .i64 jn))).drewN 1)
    have HJ := Aside0.mk hjn
    have s0 := H2.out.s0
    have s1 := H2.out.s1
    have cl := (H2.out.lat x hx).1
    rw [HYL.out] at cl
    have cla := (HA.out.lat x hx).1
    rw [HYL.out] at cla
    have fla := (HA.out.lat x hx).2
    have SA : Aside0 (wa.cell? ⟨p.sb, 0, none⟩ = some (.pointer (some ⟨p.hb, 0, none⟩)) ∧ wa.cell? ⟨p.sb, 1, none⟩ = some (.slice (some ⟨p.lb, 0, none⟩) p.nv p.nv)) := ⟨HA.out.s0, HA.out.s1⟩
    clear ba hjn
    rw [hw2]
    clear hw2
    go_wp2_with fail

    refine wp_region_held_drew (S := (fun w' : World => w'.cell? ⟨p.sb, 0, none⟩ = some (.pointer (some ⟨p.hb, 0, none⟩)) ∧ w'.cell? ⟨p.sb, 1, none⟩ = some (.slice (some ⟨p.lb, 0, none⟩) p.nv p.nv))) (by kernel_rfl) (⟨s0, s1⟩) (fun hHeld => ?_)
    refine wpAnyH_take (i := 0) (oi := { dst := some 26, op := Op.move (Operand.tmp 0), type := 62, pos := "solve.go:61", after := #[], guard := none }) (v := ?_) rfl (by kernel_rfl) (by kernel_rfl) (by kernel_rfl) (fun _ _ _ h => h) (Or.inl ⟨by rfl, ?_⟩) (by first | assumption | trivial) ?_
    rotate_left
    · first | (intro w hSw; (try dsimp only at hSw); go_simp; done) | (intro w hSw; (try dsimp only at hSw); go_simp; with_reducible rfl)
    try simp only [Act.put, List.setIfInBounds_toArray, List.set_cons_zero, List.set_cons_succ]
    refine wpAnyH_take (i := 1) (oi := { dst := some 27, op := Op.nilCheck (Operand.tmp 26), type := 0, pos := "solve.go:61", after := #[{ on := 0, ground := Ground.data }], guard := none }) (v := ?_) rfl (by kernel_rfl) (by kernel_rfl) (by kernel_rfl) (fun _ _ _ h => h) (Or.inl ⟨by rfl, ?_⟩) (by first | assumption | trivial) ?_
    rotate_left
    · first | (intro w hSw; (try dsimp only at hSw); go_simp; done) | (intro w hSw; (try dsimp only at hSw); go_simp; with_reducible rfl)
    try simp only [Act.put, List.setIfInBounds_toArray, List.set_cons_zero, List.set_cons_succ]
    refine wpAnyH_take (i := 2) (oi := { dst := some 28, op := Op.fieldAddr 69 (Operand.tmp 27) 1, type := 0, pos := "solve.go:61", after := #[{ on := 1, ground := Ground.data }], guard := none }) (v := ?_) rfl (by kernel_rfl) (by kernel_rfl) (by kernel_rfl) (fun _ _ _ h => h) (Or.inl ⟨by rfl, ?_⟩) (by first | assumption | trivial) ?_
    rotate_left
    · first | (intro w hSw; (try dsimp only at hSw); go_simp; done) | (intro w hSw; (try dsimp only at hSw); go_simp; with_reducible rfl)
    try simp only [Act.put, List.setIfInBounds_toArray, List.set_cons_zero, List.set_cons_succ]
    refine wpAnyH_take (i := 3) (oi := { dst := some 29, op := Op.load 26 (Operand.tmp 28), type := 26, pos := "solve.go:61", after := #[{ on := 2, ground := Ground.data }], guard := none }) (v := ?_) rfl (by kernel_rfl) (by kernel_rfl) (by kernel_rfl) (fun _ _ _ h => h) (Or.inl ⟨by rfl, ?_⟩) (by first | assumption | trivial) ?_
    rotate_left
    · first | (intro w hSw; (try dsimp only at hSw); go_simp; done) | (intro w hSw; (try dsimp only at hSw); go_simp; with_reducible rfl)
    try simp only [Act.put, List.setIfInBounds_toArray, List.set_cons_zero, List.set_cons_succ]
    refine wpAnyH_take (i := 4) (oi := { dst := some 30, op := Op.move (Operand.tmp 1), type := 3, pos := "solve.go:61", after := #[], guard := none }) (v := ?_) rfl (by kernel_rfl) (by kernel_rfl) (by kernel_rfl) (fun _ _ _ h => h) (Or.inl ⟨by rfl, ?_⟩) (by first | assumption | trivial) ?_
    rotate_left
    · first | (intro w hSw; (try dsimp only at hSw); go_simp; done) | (intro w hSw; (try dsimp only at hSw); go_simp; with_reducible rfl)
    try simp only [Act.put, List.setIfInBounds_toArray, List.set_cons_zero, List.set_cons_succ]
    refine wpAnyH_take (i := 5) (oi := { dst := some 31, op := Op.move (Operand.tmp 0), type := 62, pos := "solve.go:61", after := #[], guard := none }) (v := ?_) rfl (by kernel_rfl) (by kernel_rfl) (by kernel_rfl) (fun _ _ _ h => h) (Or.inl ⟨by rfl, ?_⟩) (by first | assumption | trivial) ?_
    rotate_left
    · first | (intro w hSw; (try dsimp only at hSw); go_simp; done) | (intro w hSw; (try dsimp only at hSw); go_simp; with_reducible rfl)
    try simp only [Act.put, List.setIfInBounds_toArray, List.set_cons_zero, List.set_cons_succ]
    refine wpAnyH_take (i := 6) (oi := { dst := some 32, op := Op.nilCheck (Operand.tmp 31), type := 0, pos := "solve.go:61", after := #[{ on := 5, ground := Ground.data }], guard := none }) (v := ?_) rfl (by kernel_rfl) (by kernel_rfl) (by kernel_rfl) (fun _ _ _ h => h) (Or.inl ⟨by rfl, ?_⟩) (by first | assumption | trivial) ?_
    rotate_left
    · first | (intro w hSw; (try dsimp only at hSw); go_simp; done) | (intro w hSw; (try dsimp only at hSw); go_simp; with_reducible rfl)
    try simp only [Act.put, List.setIfInBounds_toArray, List.set_cons_zero, List.set_cons_succ]
    refine wpAnyH_take (i := 7) (oi := { dst := some 33, op := Op.fieldAddr 69 (Operand.tmp 32) 0, type := 0, pos := "solve.go:61", after := #[{ on := 6, ground := Ground.data }], guard := none }) (v := ?_) rfl (by kernel_rfl) (by kernel_rfl) (by kernel_rfl) (fun _ _ _ h => h) (Or.inl ⟨by rfl, ?_⟩) (by first | assumption | trivial) ?_
    rotate_left
    · first | (intro w hSw; (try dsimp only at hSw); go_simp; done) | (intro w hSw; (try dsimp only at hSw); go_simp; with_reducible rfl)
    try simp only [Act.put, List.setIfInBounds_toArray, List.set_cons_zero, List.set_cons_succ]
    refine wpAnyH_take (i := 8) (oi := { dst := some 34, op := Op.load 28 (Operand.tmp 33), type := 28, pos := "solve.go:61", after := #[{ on := 7, ground := Ground.data }], guard := none }) (v := ?_) rfl (by kernel_rfl) (by kernel_rfl) (by kernel_rfl) (fun _ _ _ h => h) (Or.inl ⟨by rfl, ?_⟩) (by first | assumption | trivial) ?_
    rotate_left
    · first | (intro w hSw; (try dsimp only at hSw); go_simp; done) | (intro w hSw; (try dsimp only at hSw); go_simp; with_reducible rfl)
    try simp only [Act.put, List.setIfInBounds_toArray, List.set_cons_zero, List.set_cons_succ]
    refine wpAnyH_take (i := 9) (oi := { dst := some 35, op := Op.move (Operand.tmp 2), type := 3, pos := "solve.go:61", after := #[], guard := none }) (v := ?_) rfl (by kernel_rfl) (by kernel_rfl) (by kernel_rfl) (fun _ _ _ h => h) (Or.inl ⟨by rfl, ?_⟩) (by first | assumption | trivial) ?_
    rotate_left
    · first | (intro w hSw; (try dsimp only at hSw); go_simp; done) | (intro w hSw; (try dsimp only at hSw); go_simp; with_reducible rfl)
    try simp only [Act.put, List.setIfInBounds_toArray, List.set_cons_zero, List.set_cons_succ]
    refine wpAnyH_take (i := 10) (oi := { dst := some 36, op := Op.move (Operand.tmp 0), type := 62, pos := "solve.go:61", after := #[], guard := none }) (v := ?_) rfl (by kernel_rfl) (by kernel_rfl) (by kernel_rfl) (fun _ _ _ h => h) (Or.inl ⟨by rfl, ?_⟩) (by first | assumption | trivial) ?_
    rotate_left
    · first | (intro w hSw; (try dsimp only at hSw); go_simp; done) | (intro w hSw; (try dsimp only at hSw); go_simp; with_reducible rfl)
    try simp only [Act.put, List.setIfInBounds_toArray, List.set_cons_zero, List.set_cons_succ]
    refine wpAnyH_take (i := 11) (oi := { dst := some 37, op := Op.nilCheck (Operand.tmp 36), type := 0, pos := "solve.go:61", after := #[{ on := 10, ground := Ground.data }], guard := none }) (v := ?_) rfl (by kernel_rfl) (by kernel_rfl) (by kernel_rfl) (fun _ _ _ h => h) (Or.inl ⟨by rfl, ?_⟩) (by first | assumption | trivial) ?_
    rotate_left
    · first | (intro w hSw; (try dsimp only at hSw); go_simp; done) | (intro w hSw; (try dsimp only at hSw); go_simp; with_reducible rfl)
    try simp only [Act.put, List.setIfInBounds_toArray, List.set_cons_zero, List.set_cons_succ]
    refine wpAnyH_take (i := 12) (oi := { dst := some 38, op := Op.fieldAddr 69 (Operand.tmp 37) 1, type := 0, pos := "solve.go:61", after := #[{ on := 11, ground := Ground.data }], guard := none }) (v := ?_) rfl (by kernel_rfl) (by kernel_rfl) (by kernel_rfl) (fun _ _ _ h => h) (Or.inl ⟨by rfl, ?_⟩) (by first | assumption | trivial) ?_
    rotate_left
    · first | (intro w hSw; (try dsimp only at hSw); go_simp; done) | (intro w hSw; (try dsimp only at hSw); go_simp; with_reducible rfl)
    try simp only [Act.put, List.setIfInBounds_toArray, List.set_cons_zero, List.set_cons_succ]
    refine wpAnyH_take (i := 13) (oi := { dst := some 39, op := Op.load 26 (Operand.tmp 38), type := 26, pos := "solve.go:61", after := #[{ on := 12, ground := Ground.data }], guard := none }) (v := ?_) rfl (by kernel_rfl) (by kernel_rfl) (by kernel_rfl) (fun _ _ _ h => h) (Or.inl ⟨by rfl, ?_⟩) (by first | assumption | trivial) ?_
    rotate_left
    · first | (intro w hSw; (try dsimp only at hSw); go_simp; done) | (intro w hSw; (try dsimp only at hSw); go_simp; with_reducible rfl)
    try simp only [Act.put, List.setIfInBounds_toArray, List.set_cons_zero, List.set_cons_succ]
    refine wpAnyH_take (i := 14) (oi := { dst := some 40, op := Op.move (Operand.tmp 1), type := 3, pos := "solve.go:61", after := #[], guard := none }) (v := ?_) rfl (by kernel_rfl) (by kernel_rfl) (by kernel_rfl) (fun _ _ _ h => h) (Or.inl ⟨by rfl, ?_⟩) (by first | assumption | trivial) ?_
    rotate_left
    · first | (intro w hSw; (try dsimp only at hSw); go_simp; done) | (intro w hSw; (try dsimp only at hSw); go_simp; with_reducible rfl)
    try simp only [Act.put, List.setIfInBounds_toArray, List.set_cons_zero, List.set_cons_succ]
    refine wpAnyH_take (i := 15) (oi := { dst := some 41, op := Op.indexAddr 26 (Operand.tmp 39) (Operand.tmp 40), type := 0, pos := "solve.go:61", after := #[{ on := 13, ground := Ground.data }, { on := 14, ground := Ground.data }], guard := none }) (v := ?_) rfl (by kernel_rfl) (by kernel_rfl) (by kernel_rfl) (fun _ _ _ h => h) (Or.inl ⟨by rfl, ?_⟩) (by first | assumption | trivial) ?_
    rotate_left
    · first | (intro w hSw; (try dsimp only at hSw); go_simp; done) | (intro w hSw; (try dsimp only at hSw); go_simp; with_reducible rfl)
    try simp only [Act.put, List.setIfInBounds_toArray, List.set_cons_zero, List.set_cons_succ]
    refine wpAnyH_ready (rs := [16]) (by kernel_rfl) (by simp) ?_
    refine AllReadyH.cons (o := { dst := some 42, op := Op.load 3 (Operand.tmp 41), type := 3, pos := "solve.go:61", after := #[{ on := 15, ground := Ground.data }], guard := none }) rfl (fun K hK => ?_) AllReadyH.nil
    go_simp
    refine hK.out _ _ ?_ (fun hHeld => ?_)
    · exact ⟨s0, s1⟩
    clear hK K
    try simp only [Act.put, List.setIfInBounds_toArray, List.set_cons_zero, List.set_cons_succ]
    refine wpAnyH_ready (rs := [17]) (by kernel_rfl) (by simp) ?_
    refine AllReadyH.cons (o := { dst := some 43, op := Op.buildSlice 26 2 #[(0, Operand.tmp 35), (1, Operand.tmp 42)], type := 26, pos := "solve.go:61", after := #[{ on := 9, ground := Ground.data }, { on := 16, ground := Ground.data }], guard := none }) rfl (fun K hK => ?_) AllReadyH.nil
    go_simp
    refine hK.out _ _ ?_ (fun hHeld => ?_)
    · exact SA.out
    clear hK K
    try simp only [Act.put, List.setIfInBounds_toArray, List.set_cons_zero, List.set_cons_succ]
    refine wpAnyH_ready (rs := [18]) (by kernel_rfl) (by simp) ?_
    refine AllReadyH.cons (o := { dst := some 44, op := Op.call { callee := Callee.value (Operand.func 48), args := #[Operand.tmp 34, Operand.tmp 43], argTypes := #[28, 26] }, type := 3, pos := "solve.go:61", after := #[{ on := 8, ground := Ground.data }, { on := 17, ground := Ground.data }], guard := none }) rfl (fun K hK => ?_) AllReadyH.nil
    go_simp
    refine CJ.out.mono ?_
    rintro e w3 ⟨rfl, rfl⟩
    go_wp2_with fail
    refine hK.out _ _ ?_ (fun hHeld => ?_)
    · exact SA.out
    clear hK K
    try simp only [Act.put, List.setIfInBounds_toArray, List.set_cons_zero, List.set_cons_succ]
    refine wpAnyH_take (i := 19) (oi := { dst := some 45, op := Op.indexAddr 26 (Operand.tmp 29) (Operand.tmp 30), type := 0, pos := "solve.go:61", after := #[{ on := 3, ground := Ground.data }, { on := 4, ground := Ground.data }, { on := 0, ground := Ground.phase }, { on := 1, ground := Ground.phase }, { on := 2, ground := Ground.phase }, { on := 3, ground := Ground.phase }, { on := 4, ground := Ground.phase }, { on := 5, ground := Ground.phase }, { on := 6, ground := Ground.phase }, { on := 7, ground := Ground.phase }, { on := 8, ground := Ground.phase }, { on := 9, ground := Ground.phase }, { on := 10, ground := Ground.phase }, { on := 11, ground := Ground.phase }, { on := 12, ground := Ground.phase }, { on := 13, ground := Ground.phase }, { on := 14, ground := Ground.phase }, { on := 15, ground := Ground.phase }, { on := 16, ground := Ground.phase }, { on := 17, ground := Ground.phase }, { on := 18, ground := Ground.phase }], guard := none }) (v := ?_) rfl (by kernel_rfl) (by kernel_rfl) (by kernel_rfl) (fun _ _ _ h => h) (Or.inl ⟨by rfl, ?_⟩) (by first | assumption | trivial) ?_
    rotate_left
    · first | (intro w hSw; (try dsimp only at hSw); go_simp; done) | (intro w hSw; (try dsimp only at hSw); go_simp; with_reducible rfl)
    try simp only [Act.put, List.setIfInBounds_toArray, List.set_cons_zero, List.set_cons_succ]
    refine wpAnyH_ready (rs := [20]) (by kernel_rfl) (by simp) ?_
    refine AllReadyH.cons (o := { dst := none, op := Op.store 3 (Operand.tmp 45) (Operand.tmp 44), type := 0, pos := "solve.go:61", after := #[{ on := 19, ground := Ground.data }, { on := 18, ground := Ground.data }, { on := 18, ground := Ground.chain }, { on := 0, ground := Ground.phase }, { on := 1, ground := Ground.phase }, { on := 2, ground := Ground.phase }, { on := 3, ground := Ground.phase }, { on := 4, ground := Ground.phase }, { on := 5, ground := Ground.phase }, { on := 6, ground := Ground.phase }, { on := 7, ground := Ground.phase }, { on := 8, ground := Ground.phase }, { on := 9, ground := Ground.phase }, { on := 10, ground := Ground.phase }, { on := 11, ground := Ground.phase }, { on := 12, ground := Ground.phase }, { on := 13, ground := Ground.phase }, { on := 14, ground := Ground.phase }, { on := 15, ground := Ground.phase }, { on := 16, ground := Ground.phase }, { on := 17, ground := Ground.phase }, { on := 18, ground := Ground.phase }], guard := none }) rfl (fun K hK => ?_) AllReadyH.nil
    go_simp
    refine hK.out _ _ ?_ (fun hHeld => ?_)
    · exact ⟨HP.out.s0, HP.out.s1⟩
    clear hK K
    try simp only [Act.put, List.setIfInBounds_toArray, List.set_cons_zero, List.set_cons_succ]
    refine wpAnyH_done (by kernel_rfl) ?_ _
    obtain ⟨w5, hw5⟩ : ∃ w5, (wa.setCell ⟨p.lb, x, none⟩ (.int .i64 jn)).drew = w5 := ⟨_, rfl⟩
    rw [hw5]
    rw [show (wa.setCell ⟨p.lb, x, none⟩ (.int .i64 jn)).drewN 1 = w5 from hw5] at HP FP
    clear s0 s1 cl cla fla SA CJ hw5 hwa TI HA FA H2 F2
    have s4 := HP.out.s4
    obtain ⟨y1, y2⟩ := HP.out.yat x hx
    obtain ⟨r, hr⟩ : ∃ r, rdb rdy x = r := ⟨_, rfl⟩
    rw [hr] at y1
    have HRB := Aside0.mk hr
    have HLJ : Aside0 (lv.set x jn = lv.set x (allM p.n p.us [l, rd lv x])) := ⟨by rw [HYL.out, HJ.out]⟩
    clear hr
    cases r with
    | true =>
      go_wp2_with fail
      refine bodyPost_end (results_none rfl _ _ _) rfl ?_
      exact ⟨rfl, v, _, rdy, xs, HP.out, FP.out, .inr ⟨by rw [HYL.out]; exact HBM.out, HLJ.out, .inl ⟨HRB.out, rfl, rfl⟩⟩⟩
    | false =>
      have HQ := Aside0.mk (HP.out.puty x true)
      have FQ := Aside0.mk (FP.out.setCell (p := ⟨p.yb, x, none⟩) (fun _ => .inr (.inr (.inl rfl))) (.bool true))
      obtain ⟨w6, hw6⟩ : ∃ w6, w5.setCell ⟨p.yb, x, none⟩ (.bool true) = w6 := ⟨_, rfl⟩
      rw [hw6] at HQ FQ
      have s3 := HQ.out.s3
      have CP := Aside0.mk (push49 HQ.out.row (x : Int) hxl)
      go_wp2_with fail
      refine CP.out.mono ?_
      rintro e w7 ⟨rfl, v7, ys, hr7, hp7, hf7⟩
      have HS := Aside0.mk (HQ.out.rowf (by omega) hr7 hf7)
      have FS := Aside0.mk (SF.of_row FQ.out hf7)
      have PS := Aside0.mk hp7
      clear hr7 hp7 hf7 CP s3 s4 y1 y2 hw6
      go_wp2_with fail
      refine bodyPost_end (results_none rfl _ _ _) rfl ?_
      exact ⟨rfl, v7, _, _, ys, HS.out, FS.out, .inr ⟨by rw [HYL.out]; exact HBM.out, HLJ.out, .inr ⟨HRB.out, rfl, PS.out⟩⟩⟩
end Go.Proofs.Ytpbaebjohioijaa.Lat
