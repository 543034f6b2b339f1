import Derived.Test.YtpbaebjohioijaaD
import Derived.Deep.QuietTactic
import Derived.BigQuiet
import Derived.Laws.CopyOwn
import Derived.StillTailTactics
import Derived.RegionTactic
import Derived.BigRegion
namespace Go.Proofs.Ytpbaebjohioijaa.Lat
open Go.RowKit Go.Proofs.YtpbaebjohioijaaW.PrintWords Go.Proofs.YtpbaebjohioijaaW.PrintLast Go.Proofs.YtpbaebjohioijaaW.PrintMore Go.Proofs.Ytpbaebjohioijaa.PSolveLeast
set_option linter.unusedVariables false
set_option linter.unusedSimpArgs false

/-! ### The row of the variables that have risen -/
theorem m_len (a : Addr) (w : World) : (method 227 65 (.pointer (some a)) "Len").run Try.prog w = ((do let v ← loadVar 66 a; pure (25, v)) : Sem (FuncId × Value)).run Try.prog w := by kernel_rfl
theorem m_less (a : Addr) (w : World) : (method 227 65 (.pointer (some a)) "Less").run Try.prog w = ((do let v ← loadVar 66 a; pure (78, v)) : Sem (FuncId × Value)).run Try.prog w := by kernel_rfl
theorem m_swap (a : Addr) (w : World) : (method 227 65 (.pointer (some a)) "Swap").run Try.prog w = ((do let v ← loadVar 66 a; pure (81, v)) : Sem (FuncId × Value)).run Try.prog w := by kernel_rfl
theorem m_push (a : Addr) (w : World) : (method 227 65 (.pointer (some a)) "Push").run Try.prog w = .ok (80, .pointer (some a)) w := by kernel_rfl
theorem m_pop (a : Addr) (w : World) : (method 227 65 (.pointer (some a)) "Pop").run Try.prog w = .ok (79, .pointer (some a)) w := by kernel_rfl
theorem ld66 (a : Addr) (w : World) (v : Value) (f : FuncId) (h : w.cell? a = some v) : ((do let v ← loadVar 66 a; pure (f, v)) : Sem (FuncId × Value)).run Try.prog w = .ok (f, v) w := by
  have : (loadVar 66 a).run Try.prog w = (load a).run Try.prog w := by kernel_rfl
  rw [Sem.run_bind]
  rw [this]
  rw [run_load, h]
  rfl
end Go.Proofs.Ytpbaebjohioijaa.Lat
namespace Go.Proofs.Ytpbaebjohioijaa.Lat
open Go.RowKit Go.Proofs.YtpbaebjohioijaaW.PrintWords Go.Proofs.YtpbaebjohioijaaW.PrintLast Go.Proofs.YtpbaebjohioijaaW.PrintMore Go.Proofs.Ytpbaebjohioijaa.PSolveLeast
set_option linter.unusedVariables false
set_option linter.unusedSimpArgs false
/-- The row: its box at block rb, its numbers in a row of its own, whose block is among Z. -/
structure HR (Z : Nat → Prop) (base rb : Nat) (v : Value) (xs : List Int) (w : World) : Prop where
  box : w.heap[rb]? = some (.cells #[v] 66 (0, 0))
  row : (Kd.int .i64).R 3 w base Z v xs
  fresh : ∀ k, w.heap.size ≤ k → Z k
  zrb : ¬ Z rb
  brb : base ≤ rb
variable {Z : Nat → Prop} {base rb : Nat} {v : Value} {xs : List Int} {w w' : World}
theorem HR.below (h : HR Z base rb v xs w) (b : Below w.heap.size w w') : HR Z base rb v xs w' := ⟨blk_below h.box b, Kd.R_below h.row b, fun k hk => h.fresh k (Nat.le_trans b.size hk), h.zrb, h.brb⟩
theorem HR.cell (h : HR Z base rb v xs w) : w.cell? ⟨rb, 0, none⟩ = some v := blk_cell h.box 0
theorem HR.mlen (h : HR Z base rb v xs w) : (method 227 65 (.pointer (some ⟨rb, 0, none⟩)) "Len").run Try.prog w = .ok (25, v) w := (m_len _ w).trans (ld66 _ w v 25 h.cell)
theorem HR.mless (h : HR Z base rb v xs w) : (method 227 65 (.pointer (some ⟨rb, 0, none⟩)) "Less").run Try.prog w = .ok (78, v) w := (m_less _ w).trans (ld66 _ w v 78 h.cell)
theorem HR.mswap (h : HR Z base rb v xs w) : (method 227 65 (.pointer (some ⟨rb, 0, none⟩)) "Swap").run Try.prog w = .ok (81, v) w := (m_swap _ w).trans (ld66 _ w v 81 h.cell)
theorem len_any (h : HR Z base rb v xs w) : Calls Try.prog 25 #[v] w fun e w' => e = .returned (.int .i64 xs.length) ∧ w = w' := by
  obtain ⟨A, c, rfl, hc⟩ := Kd.R_reads h.row
  clear h hc
  go_enter Try.func25, Try.ntmps25
  go_wp2
  go_ret
  exact ⟨rfl, rfl⟩
theorem HR.form (h : HR Z base rb v xs w) (hp : 0 < xs.length) : ∃ g c, v = .slice (some ⟨g, 0, none⟩) xs.length c := by
  obtain ⟨g, c, hv, _⟩ := Kd.R_form h.row hp
  exact ⟨g, c, hv⟩
set_option maxRecDepth 100000 in
theorem less_any (h : HR Z base rb v xs w) (i j : Int) (hi : 0 ≤ i ∧ i < xs.length) (hj : 0 ≤ j ∧ j < xs.length) :
    Calls Try.prog 78 #[v, .int .i64 i, .int .i64 j] w fun e w' => e = .returned (.bool (decide (rd xs i < rd xs j))) ∧ Below w.heap.size w w' := by
  obtain ⟨g, c, rfl⟩ := h.form (by omega)
  have c1 := (Kd.R_celln (0 : Int) h.row i hi.1 hi.2).1
  have c2 := (Kd.R_celln (0 : Int) h.row j hj.1 hj.2).1
  obtain ⟨h1, h2⟩ := hi
  obtain ⟨h3, h4⟩ := hj
  clear h
  obtain ⟨x, hx⟩ : ∃ x, rdOf 0 xs i = x := ⟨_, rfl⟩
  obtain ⟨y, hy⟩ : ∃ y, rdOf 0 xs j = y := ⟨_, rfl⟩
  rw [show rd xs i = rdOf 0 xs i from rfl, show rd xs j = rdOf 0 xs j from rfl]
  rw [hx] at c1 ⊢
  rw [hy] at c2 ⊢
  clear hx hy
  go_enter Try.func78, Try.ntmps78
  go_wp2_with fail
  go_quiet (fail)
  go_wp2
  go_ret
  exact ⟨rfl, pw_below_drewN (Below.refl _ _) _⟩
set_option maxRecDepth 100000 in
theorem swap_any (h : HR Z base rb v xs w) (i j : Int) (hi : 0 ≤ i ∧ i < xs.length) (hj : 0 ≤ j ∧ j < xs.length) :
    Calls Try.prog 81 #[v, .int .i64 i, .int .i64 j] w fun e w' => e = .returned (.tuple #[]) ∧ HR Z base rb v ((xs.set i.toNat (rd xs j)).set j.toNat (rd xs i)) w' ∧ Foot Z w w' := by
  obtain ⟨g, c, rfl⟩ := h.form (by omega)
  obtain ⟨c1, f1⟩ := Kd.R_celln (0 : Int) h.row i hi.1 hi.2
  obtain ⟨c2, f2⟩ := Kd.R_celln (0 : Int) h.row j hj.1 hj.2
  have HS := Kd.R_putn h.row i (rd xs j)
  obtain ⟨c3, f3⟩ := Kd.R_celln (0 : Int) HS j hj.1 hj.2
  have HT := Kd.R_putn HS j (rd xs i)
  have HZ : Aside0 (Z g) := ⟨h.row.1 g rfl⟩
  have HB : Aside0 (rb ≠ g) := ⟨fun e => h.zrb (e ▸ HZ.out)⟩
  obtain ⟨h1, h2⟩ := hi
  obtain ⟨h3, h4⟩ := hj
  have HH := Aside0.mk h
  have HT := Aside0.mk HT
  clear h HS
  rw [show rdOf 0 xs i = rd xs i from rfl] at c1
  rw [show rdOf 0 xs j = rd xs j from rfl] at c2
  obtain ⟨x, hx⟩ : ∃ x, rd xs i = x := ⟨_, rfl⟩
  obtain ⟨y, hy⟩ : ∃ y, rd xs j = y := ⟨_, rfl⟩
  rw [hx] at c1 HT ⊢
  rw [hy] at c2 c3 f3 HT ⊢
  clear hx hy
  obtain ⟨z, hz⟩ : ∃ z, rdOf 0 (xs.set i.toNat y) j = z := ⟨_, rfl⟩
  rw [hz] at c3
  clear hz
  go_enter Try.func81, Try.ntmps81
  go_wp2_with fail
  refine wp_region_held_drew (S := (fun _ => True)) (by kernel_rfl) (trivial) (fun hHeld => ?_)
  refine wpAnyH_take (i := 0) (oi := { dst := some 6, op := Op.move (Operand.tmp 0), type := 66, pos := "solve.go:19", after := #[], guard := none }) (v := ?_) rfl (by kernel_rfl) (by kernel_rfl) (by kernel_rfl) (fun _ _ _ h => h) (Or.inl ⟨by rfl, ?_⟩) (by first | assumption | trivial) ?_
  rotate_left
  · first | (intro w hSw; (try dsimp only at hSw); go_simp; done) | (intro w hSw; (try dsimp only at hSw); go_simp; with_reducible rfl)
  try simp only [Act.put, List.setIfInBounds_toArray, List.set_cons_zero, List.set_cons_succ]
  refine wpAnyH_take (i := 1) (oi := { dst := some 7, op := Op.move (Operand.tmp 1), type := 3, pos := "solve.go:19", after := #[], guard := none }) (v := ?_) rfl (by kernel_rfl) (by kernel_rfl) (by kernel_rfl) (fun _ _ _ h => h) (Or.inl ⟨by rfl, ?_⟩) (by first | assumption | trivial) ?_
  rotate_left
  · first | (intro w hSw; (try dsimp only at hSw); go_simp; done) | (intro w hSw; (try dsimp only at hSw); go_simp; with_reducible rfl)
  try simp only [Act.put, List.setIfInBounds_toArray, List.set_cons_zero, List.set_cons_succ]
  refine wpAnyH_take (i := 2) (oi := { dst := some 8, op := Op.move (Operand.tmp 0), type := 66, pos := "solve.go:19", after := #[{ on := 13, ground := Ground.gcOnly Departure.lateStores }], guard := none }) (v := ?_) rfl (by kernel_rfl) (by kernel_rfl) (by kernel_rfl) (fun _ _ _ h => h) (Or.inl ⟨by rfl, ?_⟩) (by first | assumption | trivial) ?_
  rotate_left
  · first | (intro w hSw; (try dsimp only at hSw); go_simp; done) | (intro w hSw; (try dsimp only at hSw); go_simp; with_reducible rfl)
  try simp only [Act.put, List.setIfInBounds_toArray, List.set_cons_zero, List.set_cons_succ]
  refine wpAnyH_take (i := 3) (oi := { dst := some 9, op := Op.move (Operand.tmp 2), type := 3, pos := "solve.go:19", after := #[{ on := 13, ground := Ground.gcOnly Departure.lateStores }], guard := none }) (v := ?_) rfl (by kernel_rfl) (by kernel_rfl) (by kernel_rfl) (fun _ _ _ h => h) (Or.inl ⟨by rfl, ?_⟩) (by first | assumption | trivial) ?_
  rotate_left
  · first | (intro w hSw; (try dsimp only at hSw); go_simp; done) | (intro w hSw; (try dsimp only at hSw); go_simp; with_reducible rfl)
  try simp only [Act.put, List.setIfInBounds_toArray, List.set_cons_zero, List.set_cons_succ]
  refine wpAnyH_take (i := 4) (oi := { dst := some 10, op := Op.move (Operand.tmp 0), type := 66, pos := "solve.go:19", after := #[], guard := none }) (v := ?_) rfl (by kernel_rfl) (by kernel_rfl) (by kernel_rfl) (fun _ _ _ h => h) (Or.inl ⟨by rfl, ?_⟩) (by first | assumption | trivial) ?_
  rotate_left
  · first | (intro w hSw; (try dsimp only at hSw); go_simp; done) | (intro w hSw; (try dsimp only at hSw); go_simp; with_reducible rfl)
  try simp only [Act.put, List.setIfInBounds_toArray, List.set_cons_zero, List.set_cons_succ]
  refine wpAnyH_take (i := 5) (oi := { dst := some 11, op := Op.move (Operand.tmp 2), type := 3, pos := "solve.go:19", after := #[], guard := none }) (v := ?_) rfl (by kernel_rfl) (by kernel_rfl) (by kernel_rfl) (fun _ _ _ h => h) (Or.inl ⟨by rfl, ?_⟩) (by first | assumption | trivial) ?_
  rotate_left
  · first | (intro w hSw; (try dsimp only at hSw); go_simp; done) | (intro w hSw; (try dsimp only at hSw); go_simp; with_reducible rfl)
  try simp only [Act.put, List.setIfInBounds_toArray, List.set_cons_zero, List.set_cons_succ]
  refine wpAnyH_take (i := 6) (oi := { dst := some 12, op := Op.indexAddr 66 (Operand.tmp 10) (Operand.tmp 11), type := 0, pos := "solve.go:19", after := #[{ on := 4, ground := Ground.data }, { on := 5, ground := Ground.data }], guard := none }) (v := ?_) rfl (by kernel_rfl) (by kernel_rfl) (by kernel_rfl) (fun _ _ _ h => h) (Or.inl ⟨by rfl, ?_⟩) (by first | assumption | trivial) ?_
  rotate_left
  · first | (intro w hSw; (try dsimp only at hSw); go_simp; done) | (intro w hSw; (try dsimp only at hSw); go_simp; with_reducible rfl)
  try simp only [Act.put, List.setIfInBounds_toArray, List.set_cons_zero, List.set_cons_succ]
  refine wpAnyH_take (i := 8) (oi := { dst := some 14, op := Op.move (Operand.tmp 0), type := 66, pos := "solve.go:19", after := #[], guard := none }) (v := ?_) rfl (by kernel_rfl) (by kernel_rfl) (by kernel_rfl) (fun _ _ _ h => h) (Or.inl ⟨by rfl, ?_⟩) (by first | assumption | trivial) ?_
  rotate_left
  · first | (intro w hSw; (try dsimp only at hSw); go_simp; done) | (intro w hSw; (try dsimp only at hSw); go_simp; with_reducible rfl)
  try simp only [Act.put, List.setIfInBounds_toArray, List.set_cons_zero, List.set_cons_succ]
  refine wpAnyH_take (i := 9) (oi := { dst := some 15, op := Op.move (Operand.tmp 1), type := 3, pos := "solve.go:19", after := #[], guard := none }) (v := ?_) rfl (by kernel_rfl) (by kernel_rfl) (by kernel_rfl) (fun _ _ _ h => h) (Or.inl ⟨by rfl, ?_⟩) (by first | assumption | trivial) ?_
  rotate_left
  · first | (intro w hSw; (try dsimp only at hSw); go_simp; done) | (intro w hSw; (try dsimp only at hSw); go_simp; with_reducible rfl)
  try simp only [Act.put, List.setIfInBounds_toArray, List.set_cons_zero, List.set_cons_succ]
  refine wpAnyH_take (i := 10) (oi := { dst := some 16, op := Op.indexAddr 66 (Operand.tmp 14) (Operand.tmp 15), type := 0, pos := "solve.go:19", after := #[{ on := 8, ground := Ground.data }, { on := 9, ground := Ground.data }], guard := none }) (v := ?_) rfl (by kernel_rfl) (by kernel_rfl) (by kernel_rfl) (fun _ _ _ h => h) (Or.inl ⟨by rfl, ?_⟩) (by first | assumption | trivial) ?_
  rotate_left
  · first | (intro w hSw; (try dsimp only at hSw); go_simp; done) | (intro w hSw; (try dsimp only at hSw); go_simp; with_reducible rfl)
  try simp only [Act.put, List.setIfInBounds_toArray, List.set_cons_zero, List.set_cons_succ]
  refine wpAnyH_ready (rs := [7, 11]) (by kernel_rfl) (by simp) ?_
  refine AllReadyH.cons (o := { dst := some 13, op := Op.load 3 (Operand.tmp 12), type := 3, pos := "solve.go:19", after := #[{ on := 6, ground := Ground.data }], guard := none }) rfl (fun K hK => ?_) ?_
  · go_simp
    refine hK.out _ _ ?_ (fun hHeld => ?_)
    · exact trivial
    clear hK K
    try simp only [Act.put, List.setIfInBounds_toArray, List.set_cons_zero, List.set_cons_succ]
    refine wpAnyH_ready (rs := [11]) (by kernel_rfl) (by simp) ?_
    refine AllReadyH.cons (o := { dst := some 17, op := Op.load 3 (Operand.tmp 16), type := 3, pos := "solve.go:19", after := #[{ on := 10, ground := Ground.data }], guard := none }) rfl (fun K hK => ?_) AllReadyH.nil
    go_simp
    refine hK.out _ _ ?_ (fun hHeld => ?_)
    · exact trivial
    clear hK K
    try simp only [Act.put, List.setIfInBounds_toArray, List.set_cons_zero, List.set_cons_succ]
    refine wpAnyH_take (i := 12) (oi := { dst := some 18, op := Op.indexAddr 66 (Operand.tmp 6) (Operand.tmp 7), type := 0, pos := "solve.go:19", after := #[{ on := 0, ground := Ground.data }, { on := 1, ground := Ground.data }, { on := 0, ground := Ground.phase }, { on := 1, ground := Ground.phase }, { on := 2, ground := Ground.textOnly Departure.lateStores }, { on := 3, ground := Ground.textOnly Departure.lateStores }, { on := 4, ground := Ground.phase }, { on := 5, ground := Ground.phase }, { on := 6, ground := Ground.phase }, { on := 7, ground := Ground.phase }, { on := 8, ground := Ground.textOnly Departure.lateStores }, { on := 9, ground := Ground.textOnly Departure.lateStores }, { on := 10, ground := Ground.textOnly Departure.lateStoresUnsure }, { on := 11, ground := Ground.phase }], guard := none }) (v := ?_) rfl (by kernel_rfl) (by kernel_rfl) (by kernel_rfl) (fun _ _ _ h => h) (Or.inl ⟨by rfl, ?_⟩) (by first | assumption | trivial) ?_
    rotate_left
    · first | (intro w hSw; (try dsimp only at hSw); go_simp; done) | (intro w hSw; (try dsimp only at hSw); go_simp; with_reducible rfl)
    try simp only [Act.put, List.setIfInBounds_toArray, List.set_cons_zero, List.set_cons_succ]
    refine wpAnyH_ready (rs := [13]) (by kernel_rfl) (by simp) ?_
    refine AllReadyH.cons (o := { dst := none, op := Op.store 3 (Operand.tmp 18) (Operand.tmp 13), type := 0, pos := "solve.go:19", after := #[{ on := 12, ground := Ground.data }, { on := 7, ground := Ground.data }, { on := 0, ground := Ground.phase }, { on := 1, ground := Ground.phase }, { on := 2, ground := Ground.textOnly Departure.lateStores }, { on := 3, ground := Ground.textOnly Departure.lateStores }, { on := 4, ground := Ground.phase }, { on := 5, ground := Ground.phase }, { on := 6, ground := Ground.phase }, { on := 7, ground := Ground.phase }, { on := 8, ground := Ground.textOnly Departure.lateStores }, { on := 9, ground := Ground.textOnly Departure.lateStores }, { on := 10, ground := Ground.textOnly Departure.lateStoresUnsure }, { on := 11, ground := Ground.phase }], guard := none }) rfl (fun K hK => ?_) AllReadyH.nil
    go_simp
    refine hK.out _ _ ?_ (fun hHeld => ?_)
    · exact trivial
    clear hK K
    try simp only [Act.put, List.setIfInBounds_toArray, List.set_cons_zero, List.set_cons_succ]
    refine wpAnyH_take (i := 14) (oi := { dst := some 19, op := Op.indexAddr 66 (Operand.tmp 8) (Operand.tmp 9), type := 0, pos := "solve.go:19", after := #[{ on := 2, ground := Ground.data }, { on := 3, ground := Ground.data }, { on := 0, ground := Ground.phase }, { on := 1, ground := Ground.phase }, { on := 2, ground := Ground.phase }, { on := 3, ground := Ground.phase }, { on := 4, ground := Ground.phase }, { on := 5, ground := Ground.phase }, { on := 6, ground := Ground.phase }, { on := 7, ground := Ground.phase }, { on := 8, ground := Ground.phase }, { on := 9, ground := Ground.phase }, { on := 10, ground := Ground.phase }, { on := 11, ground := Ground.phase }, { on := 12, ground := Ground.phase }, { on := 13, ground := Ground.phase }], guard := none }) (v := ?_) rfl (by kernel_rfl) (by kernel_rfl) (by kernel_rfl) (fun _ _ _ h => h) (Or.inl ⟨by rfl, ?_⟩) (by first | assumption | trivial) ?_
    rotate_left
    · first | (intro w hSw; (try dsimp only at hSw); go_simp; done) | (intro w hSw; (try dsimp only at hSw); go_simp; with_reducible rfl)
    try simp only [Act.put, List.setIfInBounds_toArray, List.set_cons_zero, List.set_cons_succ]
    refine wpAnyH_ready (rs := [15]) (by kernel_rfl) (by simp) ?_
    refine AllReadyH.cons (o := { dst := none, op := Op.store 3 (Operand.tmp 19) (Operand.tmp 17), type := 0, pos := "solve.go:19", after := #[{ on := 14, ground := Ground.data }, { on := 11, ground := Ground.data }, { on := 13, ground := Ground.chain }, { on := 0, ground := Ground.phase }, { on := 1, ground := Ground.phase }, { on := 2, ground := Ground.phase }, { on := 3, ground := Ground.phase }, { on := 4, ground := Ground.phase }, { on := 5, ground := Ground.phase }, { on := 6, ground := Ground.phase }, { on := 7, ground := Ground.phase }, { on := 8, ground := Ground.phase }, { on := 9, ground := Ground.phase }, { on := 10, ground := Ground.phase }, { on := 11, ground := Ground.phase }, { on := 12, ground := Ground.phase }, { on := 13, ground := Ground.phase }], guard := none }) rfl (fun K hK => ?_) AllReadyH.nil
    go_simp
    refine hK.out _ _ ?_ (fun hHeld => ?_)
    · exact trivial
    clear hK K
    try simp only [Act.put, List.setIfInBounds_toArray, List.set_cons_zero, List.set_cons_succ]
    refine wpAnyH_done (by kernel_rfl) ?_ _
    refine bodyPost_end (results_none rfl _ _ _) rfl ?_
    exact ⟨rfl, ⟨blk_far (blk_far HH.out.box HB.out _) HB.out _, Kd.R_drew HT.out, fun k hk => HH.out.fresh k (by simpa [World.setCell] using hk), HH.out.zrb, HH.out.brb⟩, (((Foot.refl Z w).setCell (fun _ => HZ.out) _).setCell (fun _ => HZ.out) _).drewN 1⟩
  refine AllReadyH.cons (o := { dst := some 17, op := Op.load 3 (Operand.tmp 16), type := 3, pos := "solve.go:19", after := #[{ on := 10, ground := Ground.data }], guard := none }) rfl (fun K hK => ?_) ?_
  · go_simp
    refine hK.out _ _ ?_ (fun hHeld => ?_)
    · exact trivial
    clear hK K
    try simp only [Act.put, List.setIfInBounds_toArray, List.set_cons_zero, List.set_cons_succ]
    refine wpAnyH_ready (rs := [7]) (by kernel_rfl) (by simp) ?_
    refine AllReadyH.cons (o := { dst := some 13, op := Op.load 3 (Operand.tmp 12), type := 3, pos := "solve.go:19", after := #[{ on := 6, ground := Ground.data }], guard := none }) rfl (fun K hK => ?_) AllReadyH.nil
    go_simp
    refine hK.out _ _ ?_ (fun hHeld => ?_)
    · exact trivial
    clear hK K
    try simp only [Act.put, List.setIfInBounds_toArray, List.set_cons_zero, List.set_cons_succ]
    refine wpAnyH_take (i := 12) (oi := { dst := some 18, op := Op.indexAddr 66 (Operand.tmp 6) (Operand.tmp 7), type := 0, pos := "solve.go:19", after := #[{ on := 0, ground := Ground.data }, { on := 1, ground := Ground.data }, { on := 0, ground := Ground.phase }, { on := 1, ground := Ground.phase }, { on := 2, ground := Ground.textOnly Departure.lateStores }, { on := 3, ground := Ground.textOnly Departure.lateStores }, { on := 4, ground := Ground.phase }, { on := 5, ground := Ground.phase }, { on := 6, ground := Ground.phase }, { on := 7, ground := Ground.phase }, { on := 8, ground := Ground.textOnly Departure.lateStores }, { on := 9, ground := Ground.textOnly Departure.lateStores }, { on := 10, ground := Ground.textOnly Departure.lateStoresUnsure }, { on := 11, ground := Ground.phase }], guard := none }) (v := ?_) rfl (by kernel_rfl) (by kernel_rfl) (by kernel_rfl) (fun _ _ _ h => h) (Or.inl ⟨by rfl, ?_⟩) (by first | assumption | trivial) ?_
    rotate_left
    · first | (intro w hSw; (try dsimp only at hSw); go_simp; done) | (intro w hSw; (try dsimp only at hSw); go_simp; with_reducible rfl)
    try simp only [Act.put, List.setIfInBounds_toArray, List.set_cons_zero, List.set_cons_succ]
    refine wpAnyH_ready (rs := [13]) (by kernel_rfl) (by simp) ?_
    refine AllReadyH.cons (o := { dst := none, op := Op.store 3 (Operand.tmp 18) (Operand.tmp 13), type := 0, pos := "solve.go:19", after := #[{ on := 12, ground := Ground.data }, { on := 7, ground := Ground.data }, { on := 0, ground := Ground.phase }, { on := 1, ground := Ground.phase }, { on := 2, ground := Ground.textOnly Departure.lateStores }, { on := 3, ground := Ground.textOnly Departure.lateStores }, { on := 4, ground := Ground.phase }, { on := 5, ground := Ground.phase }, { on := 6, ground := Ground.phase }, { on := 7, ground := Ground.phase }, { on := 8, ground := Ground.textOnly Departure.lateStores }, { on := 9, ground := Ground.textOnly Departure.lateStores }, { on := 10, ground := Ground.textOnly Departure.lateStoresUnsure }, { on := 11, ground := Ground.phase }], guard := none }) rfl (fun K hK => ?_) AllReadyH.nil
    go_simp
    refine hK.out _ _ ?_ (fun hHeld => ?_)
    · exact trivial
    clear hK K
    try simp only [Act.put, List.setIfInBounds_toArray, List.set_cons_zero, List.set_cons_succ]
    refine wpAnyH_take (i := 14) (oi := { dst := some 19, op := Op.indexAddr 66 (Operand.tmp 8) (Operand.tmp 9), type := 0, pos := "solve.go:19", after := #[{ on := 2, ground := Ground.data }, { on := 3, ground := Ground.data }, { on := 0, ground := Ground.phase }, { on := 1, ground := Ground.phase }, { on := 2, ground := Ground.phase }, { on := 3, ground := Ground.phase }, { on := 4, ground := Ground.phase }, { on := 5, ground := Ground.phase }, { on := 6, ground := Ground.phase }, { on := 7, ground := Ground.phase }, { on := 8, ground := Ground.phase }, { on := 9, ground := Ground.phase }, { on := 10, ground := Ground.phase }, { on := 11, ground := Ground.phase }, { on := 12, ground := Ground.phase }, { on := 13, ground := Ground.phase }], guard := none }) (v := ?_) rfl (by kernel_rfl) (by kernel_rfl) (by kernel_rfl) (fun _ _ _ h => h) (Or.inl ⟨by rfl, ?_⟩) (by first | assumption | trivial) ?_
    rotate_left
    · first | (intro w hSw; (try dsimp only at hSw); go_simp; done) | (intro w hSw; (try dsimp only at hSw); go_simp; with_reducible rfl)
    try simp only [Act.put, List.setIfInBounds_toArray, List.set_cons_zero, List.set_cons_succ]
    refine wpAnyH_ready (rs := [15]) (by kernel_rfl) (by simp) ?_
    refine AllReadyH.cons (o := { dst := none, op := Op.store 3 (Operand.tmp 19) (Operand.tmp 17), type := 0, pos := "solve.go:19", after := #[{ on := 14, ground := Ground.data }, { on := 11, ground := Ground.data }, { on := 13, ground := Ground.chain }, { on := 0, ground := Ground.phase }, { on := 1, ground := Ground.phase }, { on := 2, ground := Ground.phase }, { on := 3, ground := Ground.phase }, { on := 4, ground := Ground.phase }, { on := 5, ground := Ground.phase }, { on := 6, ground := Ground.phase }, { on := 7, ground := Ground.phase }, { on := 8, ground := Ground.phase }, { on := 9, ground := Ground.phase }, { on := 10, ground := Ground.phase }, { on := 11, ground := Ground.phase }, { on := 12, ground := Ground.phase }, { on := 13, ground := Ground.phase }], guard := none }) rfl (fun K hK => ?_) AllReadyH.nil
    go_simp
    refine hK.out _ _ ?_ (fun hHeld => ?_)
    · exact trivial
    clear hK K
    try simp only [Act.put, List.setIfInBounds_toArray, List.set_cons_zero, List.set_cons_succ]
    refine wpAnyH_done (by kernel_rfl) ?_ _
    refine bodyPost_end (results_none rfl _ _ _) rfl ?_
    exact ⟨rfl, ⟨blk_far (blk_far HH.out.box HB.out _) HB.out _, Kd.R_drew HT.out, fun k hk => HH.out.fresh k (by simpa [World.setCell] using hk), HH.out.zrb, HH.out.brb⟩, (((Foot.refl Z w).setCell (fun _ => HZ.out) _).setCell (fun _ => HZ.out) _).drewN 1⟩
  exact AllReadyH.nil
end Go.Proofs.Ytpbaebjohioijaa.Lat
namespace Go.Proofs.Ytpbaebjohioijaa.Lat
open Go.RowKit Go.Proofs.YtpbaebjohioijaaW.PrintWords Go.Proofs.YtpbaebjohioijaaW.PrintLast Go.Proofs.YtpbaebjohioijaaW.PrintMore Go.Proofs.Ytpbaebjohioijaa.PSolveLeast
set_option linter.unusedVariables false
set_option linter.unusedSimpArgs false
variable {Z : Nat → Prop} {base rb : Nat} {v : Value} {xs : List Int} {w w' : World}
/-- What the row's methods may turn: its box, and blocks among Z. -/
def RF (Z : Nat → Prop) (rb : Nat) : Nat → Prop := fun k => k = rb ∨ Z k
theorem HR.drew (h : HR Z base rb v xs w) : HR Z base rb v xs w.drew := h.below (below_drew (Below.refl _ _))
theorem HR.put (h : HR Z base rb v xs w) {v1 : Value} {ys : List Int} {w1 : World} (hb : w1.heap[rb]? = some (.cells #[v] 66 (0, 0))) (hr : (Kd.int .i64).R 3 w1 base Z v1 ys) (hs : w.heap.size ≤ w1.heap.size) : HR Z base rb v1 ys (w1.setCell ⟨rb, 0, none⟩ v1) := by
  refine ⟨?_, Kd.R_far hr (fun k hk e => h.zrb (by have e' : k = rb := e; exact e' ▸ hk)) v1, fun k hk => h.fresh k (Nat.le_trans hs (by simpa [World.setCell] using hk)), h.zrb, h.brb⟩
  rw [blk_set hb 0 v1]
  rfl
theorem ta3 (x : Int) (w : World) : (Instr.typeAssert (.iface 3 (.int .i64 x)) 20 3 false).run Try.prog w = .ok (.int .i64 x) w := by kernel_rfl
set_option maxRecDepth 100000 in
theorem push80 (h : HR Z base rb v xs w) (x : Int) (hl : xs.length ≤ 1000000) : Calls Try.prog 80 #[.pointer (some ⟨rb, 0, none⟩), .iface 3 (.int .i64 x)] w fun e w' => e = .returned (.tuple #[]) ∧ ∃ v', HR Z base rb v' (xs ++ [x]) w' ∧ Foot (RF Z rb) w w' := by
  have c0 := h.cell
  have hv := Kd.R_slice h.row
  have hlt := blk_lt h.box
  have hbs : base ≤ w.heap.size := Nat.le_trans h.brb (Nat.le_of_lt hlt)
  have hne : some rb ≠ v.ownBlock := Kd.R_ne h.row h.box (by decide)
  have HH := Aside0.mk h
  have HNE := Aside0.mk hne
  clear h hlt hne
  obtain ⟨A, c, rfl⟩ := hv
  have ta := ta3 x
  have c0b : (w.alloc (.cells #[.int .i64 x] 3)).cell? ⟨rb, 0, none⟩ = some (.slice A xs.length c) := (HH.out.below (below_alloc (Below.refl _ _) _)).cell
  go_enter Try.func80, Try.ntmps80
  go_wp2_with fail
  refine wp_region_held_drew (S := (fun _ => True)) (by kernel_rfl) (trivial) (fun hHeld => ?_)
  refine wpAnyH_take (i := 0) (oi := { dst := some 4, op := Op.move (Operand.tmp 0), type := 65, pos := "solve.go:22", after := #[], guard := none }) (v := ?_) rfl (by kernel_rfl) (by kernel_rfl) (by kernel_rfl) (fun _ _ _ h => h) (Or.inl ⟨by rfl, ?_⟩) (by first | assumption | trivial) ?_
  rotate_left
  · first | (intro w hSw; (try dsimp only at hSw); go_simp; done) | (intro w hSw; (try dsimp only at hSw); go_simp; with_reducible rfl)
  try simp only [Act.put, List.setIfInBounds_toArray, List.set_cons_zero, List.set_cons_succ]
  refine wpAnyH_take (i := 1) (oi := { dst := some 5, op := Op.move (Operand.tmp 0), type := 65, pos := "solve.go:22", after := #[], guard := none }) (v := ?_) rfl (by kernel_rfl) (by kernel_rfl) (by kernel_rfl) (fun _ _ _ h => h) (Or.inl ⟨by rfl, ?_⟩) (by first | assumption | trivial) ?_
  rotate_left
  · first | (intro w hSw; (try dsimp only at hSw); go_simp; done) | (intro w hSw; (try dsimp only at hSw); go_simp; with_reducible rfl)
  try simp only [Act.put, List.setIfInBounds_toArray, List.set_cons_zero, List.set_cons_succ]
  refine wpAnyH_take (i := 2) (oi := { dst := some 6, op := Op.nilCheck (Operand.tmp 5), type := 0, pos := "solve.go:22", after := #[{ on := 1, ground := Ground.data }], guard := none }) (v := ?_) rfl (by kernel_rfl) (by kernel_rfl) (by kernel_rfl) (fun _ _ _ h => h) (Or.inl ⟨by rfl, ?_⟩) (by first | assumption | trivial) ?_
  rotate_left
  · first | (intro w hSw; (try dsimp only at hSw); go_simp; done) | (intro w hSw; (try dsimp only at hSw); go_simp; with_reducible rfl)
  try simp only [Act.put, List.setIfInBounds_toArray, List.set_cons_zero, List.set_cons_succ]
  refine wpAnyH_take (i := 4) (oi := { dst := some 8, op := Op.move (Operand.tmp 1), type := 20, pos := "solve.go:22", after := #[], guard := none }) (v := ?_) rfl (by kernel_rfl) (by kernel_rfl) (by kernel_rfl) (fun _ _ _ h => h) (Or.inl ⟨by rfl, ?_⟩) (by first | assumption | trivial) ?_
  rotate_left
  · first | (intro w hSw; (try dsimp only at hSw); go_simp; done) | (intro w hSw; (try dsimp only at hSw); go_simp; with_reducible rfl)
  try simp only [Act.put, List.setIfInBounds_toArray, List.set_cons_zero, List.set_cons_succ]
  refine wpAnyH_take (i := 5) (oi := { dst := some 9, op := Op.typeAssert (Operand.tmp 8) 20 3 false, type := 3, pos := "solve.go:22", after := #[{ on := 4, ground := Ground.data }], guard := none }) (v := ?_) rfl (by kernel_rfl) (by kernel_rfl) (by kernel_rfl) (fun _ _ _ h => h) (Or.inl ⟨by rfl, ?_⟩) (by first | assumption | trivial) ?_
  rotate_left
  · first | (intro w hSw; (try dsimp only at hSw); go_simp; done) | (intro w hSw; (try dsimp only at hSw); go_simp; with_reducible rfl)
  try simp only [Act.put, List.setIfInBounds_toArray, List.set_cons_zero, List.set_cons_succ]
  refine wpAnyH_ready (rs := [3, 6]) (by kernel_rfl) (by simp) ?_
  refine AllReadyH.cons (o := { dst := some 7, op := Op.load 66 (Operand.tmp 6), type := 66, pos := "solve.go:22", after := #[{ on := 2, ground := Ground.data }], guard := none }) rfl (fun K hK => ?_) ?_
  · go_simp
    refine hK.out _ _ ?_ (fun hHeld => ?_)
    · exact trivial
    clear hK K
    try simp only [Act.put, List.setIfInBounds_toArray, List.set_cons_zero, List.set_cons_succ]
    refine wpAnyH_ready (rs := [6]) (by kernel_rfl) (by simp) ?_
    refine AllReadyH.cons (o := { dst := some 10, op := Op.buildSlice 66 1 #[(0, Operand.tmp 9)], type := 66, pos := "solve.go:22", after := #[{ on := 5, ground := Ground.data }], guard := none }) rfl (fun K hK => ?_) AllReadyH.nil
    go_simp
    refine hK.out _ _ ?_ (fun hHeld => ?_)
    · exact trivial
    clear hK K
    try simp only [Act.put, List.setIfInBounds_toArray, List.set_cons_zero, List.set_cons_succ]
    refine wpAnyH_ready (rs := [7]) (by kernel_rfl) (by simp) ?_
    refine AllReadyH.cons (o := { dst := some 11, op := Op.call { callee := Callee.builtin Builtin.append, args := #[Operand.tmp 7, Operand.tmp 10], argTypes := #[66, 66] }, type := 66, pos := "solve.go:22", after := #[{ on := 3, ground := Ground.data }, { on := 6, ground := Ground.data }], guard := none }) rfl (fun K hK => ?_) AllReadyH.nil
    refine Kd.R_append_step (Kd.int .i64) (w0 := w.drew) base rfl (.tmp 7) (.tmp 10) 66 3 (.int .i64 0) 8 rfl Try.underlying66 info3 rfl (by decide) (by decide) (.slice A xs.length c) xs x [.int .i64 x] Z (fun _ => False) rfl rfl rfl (fun _ h => h.elim) HH.out.drew.fresh HH.out.drew.row (Below.refl _ _) hbs (by omega) ?_
    intro v1 w1 hr1 hb1 hg1 hat1
    obtain ⟨A1, cc1, e1⟩ := Kd.R_slice hr1
    rw [show (xs ++ [x]).length = xs.length + 1 from by simp] at e1
    subst e1
    have BX : w1.heap[rb]? = some (.cells #[.slice A xs.length c] 66 (0, 0)) := (hg1.block rb (blk_lt HH.out.box) HNE.out).trans HH.out.box
    have c1 : w1.cell? ⟨rb, 0, none⟩ = some (.slice A xs.length c) := blk_cell BX 0
    have fz : w1.frozen? ⟨rb, 0, none⟩ = false := blk_frozen BX 0
    have HF1 := Aside0.mk (((Foot.refl (RF Z rb) w).drewN 1).grown hg1 (fun k hk _ => .inr (HH.out.row.1 k hk)))
    have HP1 := Aside0.mk (HH.out.put BX hr1 hb1.size)
    clear hr1 hb1 hg1 hat1 BX
    refine hK.out _ _ ?_ (fun hHeld => ?_)
    · exact trivial
    clear hK K
    try simp only [Act.put, List.setIfInBounds_toArray, List.set_cons_zero, List.set_cons_succ]
    refine wpAnyH_take (i := 8) (oi := { dst := some 12, op := Op.nilCheck (Operand.tmp 4), type := 0, pos := "solve.go:22", after := #[{ on := 0, ground := Ground.data }, { on := 0, ground := Ground.phase }, { on := 1, ground := Ground.phase }, { on := 2, ground := Ground.phase }, { on := 3, ground := Ground.phase }, { on := 4, ground := Ground.phase }, { on := 5, ground := Ground.phase }, { on := 6, ground := Ground.phase }, { on := 7, ground := Ground.phase }], guard := none }) (v := ?_) rfl (by kernel_rfl) (by kernel_rfl) (by kernel_rfl) (fun _ _ _ h => h) (Or.inl ⟨by rfl, ?_⟩) (by first | assumption | trivial) ?_
    rotate_left
    · first | (intro w hSw; (try dsimp only at hSw); go_simp; done) | (intro w hSw; (try dsimp only at hSw); go_simp; with_reducible rfl)
    try simp only [Act.put, List.setIfInBounds_toArray, List.set_cons_zero, List.set_cons_succ]
    refine wpAnyH_ready (rs := [9]) (by kernel_rfl) (by simp) ?_
    refine AllReadyH.cons (o := { dst := none, op := Op.store 66 (Operand.tmp 12) (Operand.tmp 11), type := 0, pos := "solve.go:22", after := #[{ on := 8, ground := Ground.data }, { on := 7, ground := Ground.data }, { on := 7, ground := Ground.chain }, { on := 0, ground := Ground.phase }, { on := 1, ground := Ground.phase }, { on := 2, ground := Ground.phase }, { on := 3, ground := Ground.phase }, { on := 4, ground := Ground.phase }, { on := 5, ground := Ground.phase }, { on := 6, ground := Ground.phase }, { on := 7, ground := Ground.phase }], guard := none }) rfl (fun K hK => ?_) AllReadyH.nil
    go_simp
    refine hK.out _ _ ?_ (fun hHeld => ?_)
    · exact trivial
    clear hK K
    try simp only [Act.put, List.setIfInBounds_toArray, List.set_cons_zero, List.set_cons_succ]
    refine wpAnyH_done (by kernel_rfl) ?_ _
    refine bodyPost_end (results_none rfl _ _ _) rfl ?_
    exact ⟨rfl, _, HP1.out, HF1.out.setCell (fun _ => .inl rfl) _⟩
  refine AllReadyH.cons (o := { dst := some 10, op := Op.buildSlice 66 1 #[(0, Operand.tmp 9)], type := 66, pos := "solve.go:22", after := #[{ on := 5, ground := Ground.data }], guard := none }) rfl (fun K hK => ?_) ?_
  · go_simp
    refine hK.out _ _ ?_ (fun hHeld => ?_)
    · exact trivial
    clear hK K
    try simp only [Act.put, List.setIfInBounds_toArray, List.set_cons_zero, List.set_cons_succ]
    refine wpAnyH_ready (rs := [3]) (by kernel_rfl) (by simp) ?_
    refine AllReadyH.cons (o := { dst := some 7, op := Op.load 66 (Operand.tmp 6), type := 66, pos := "solve.go:22", after := #[{ on := 2, ground := Ground.data }], guard := none }) rfl (fun K hK => ?_) AllReadyH.nil
    go_simp
    refine hK.out _ _ ?_ (fun hHeld => ?_)
    · exact trivial
    clear hK K
    try simp only [Act.put, List.setIfInBounds_toArray, List.set_cons_zero, List.set_cons_succ]
    refine wpAnyH_ready (rs := [7]) (by kernel_rfl) (by simp) ?_
    refine AllReadyH.cons (o := { dst := some 11, op := Op.call { callee := Callee.builtin Builtin.append, args := #[Operand.tmp 7, Operand.tmp 10], argTypes := #[66, 66] }, type := 66, pos := "solve.go:22", after := #[{ on := 3, ground := Ground.data }, { on := 6, ground := Ground.data }], guard := none }) rfl (fun K hK => ?_) AllReadyH.nil
    refine Kd.R_append_step (Kd.int .i64) (w0 := w.drew) base rfl (.tmp 7) (.tmp 10) 66 3 (.int .i64 0) 8 rfl Try.underlying66 info3 rfl (by decide) (by decide) (.slice A xs.length c) xs x [.int .i64 x] Z (fun _ => False) rfl rfl rfl (fun _ h => h.elim) HH.out.drew.fresh HH.out.drew.row (Below.refl _ _) hbs (by omega) ?_
    intro v1 w1 hr1 hb1 hg1 hat1
    obtain ⟨A1, cc1, e1⟩ := Kd.R_slice hr1
    rw [show (xs ++ [x]).length = xs.length + 1 from by simp] at e1
    subst e1
    have BX : w1.heap[rb]? = some (.cells #[.slice A xs.length c] 66 (0, 0)) := (hg1.block rb (blk_lt HH.out.box) HNE.out).trans HH.out.box
    have c1 : w1.cell? ⟨rb, 0, none⟩ = some (.slice A xs.length c) := blk_cell BX 0
    have fz : w1.frozen? ⟨rb, 0, none⟩ = false := blk_frozen BX 0
    have HF1 := Aside0.mk (((Foot.refl (RF Z rb) w).drewN 1).grown hg1 (fun k hk _ => .inr (HH.out.row.1 k hk)))
    have HP1 := Aside0.mk (HH.out.put BX hr1 hb1.size)
    clear hr1 hb1 hg1 hat1 BX
    refine hK.out _ _ ?_ (fun hHeld => ?_)
    · exact trivial
    clear hK K
    try simp only [Act.put, List.setIfInBounds_toArray, List.set_cons_zero, List.set_cons_succ]
    refine wpAnyH_take (i := 8) (oi := { dst := some 12, op := Op.nilCheck (Operand.tmp 4), type := 0, pos := "solve.go:22", after := #[{ on := 0, ground := Ground.data }, { on := 0, ground := Ground.phase }, { on := 1, ground := Ground.phase }, { on := 2, ground := Ground.phase }, { on := 3, ground := Ground.phase }, { on := 4, ground := Ground.phase }, { on := 5, ground := Ground.phase }, { on := 6, ground := Ground.phase }, { on := 7, ground := Ground.phase }], guard := none }) (v := ?_) rfl (by kernel_rfl) (by kernel_rfl) (by kernel_rfl) (fun _ _ _ h => h) (Or.inl ⟨by rfl, ?_⟩) (by first | assumption | trivial) ?_
    rotate_left
    · first | (intro w hSw; (try dsimp only at hSw); go_simp; done) | (intro w hSw; (try dsimp only at hSw); go_simp; with_reducible rfl)
    try simp only [Act.put, List.setIfInBounds_toArray, List.set_cons_zero, List.set_cons_succ]
    refine wpAnyH_ready (rs := [9]) (by kernel_rfl) (by simp) ?_
    refine AllReadyH.cons (o := { dst := none, op := Op.store 66 (Operand.tmp 12) (Operand.tmp 11), type := 0, pos := "solve.go:22", after := #[{ on := 8, ground := Ground.data }, { on := 7, ground := Ground.data }, { on := 7, ground := Ground.chain }, { on := 0, ground := Ground.phase }, { on := 1, ground := Ground.phase }, { on := 2, ground := Ground.phase }, { on := 3, ground := Ground.phase }, { on := 4, ground := Ground.phase }, { on := 5, ground := Ground.phase }, { on := 6, ground := Ground.phase }, { on := 7, ground := Ground.phase }], guard := none }) rfl (fun K hK => ?_) AllReadyH.nil
    go_simp
    refine hK.out _ _ ?_ (fun hHeld => ?_)
    · exact trivial
    clear hK K
    try simp only [Act.put, List.setIfInBounds_toArray, List.set_cons_zero, List.set_cons_succ]
    refine wpAnyH_done (by kernel_rfl) ?_ _
    refine bodyPost_end (results_none rfl _ _ _) rfl ?_
    exact ⟨rfl, _, HP1.out, HF1.out.setCell (fun _ => .inl rfl) _⟩
  exact AllReadyH.nil
set_option maxRecDepth 100000 in
theorem pop79 (h : HR Z base rb v xs w) (hp : 0 < xs.length) (hl : xs.length ≤ 1000000) : Calls Try.prog 79 #[.pointer (some ⟨rb, 0, none⟩)] w fun e w' => e = .returned (.iface 3 (.int .i64 (rd xs ((xs.length - 1 : Nat) : Int)))) ∧ ∃ v', HR Z base rb v' (xs.take (xs.length - 1)) w' ∧ Foot (RF Z rb) w w' := by
  have c0 := h.cell
  have f0 : w.frozen? ⟨rb, 0, none⟩ = false := blk_frozen h.box 0
  obtain ⟨g, c, rfl⟩ := h.form hp
  have hc := (Kd.R_reads' h.row).2.1
  have ht := Kd.R_take h.row (m := xs.length - 1) (by omega)
  obtain ⟨m, hm⟩ : ∃ m, xs.length = m + 1 := ⟨xs.length - 1, by omega⟩
  have HX := Aside0.mk (h.put h.box ht (Nat.le_refl _))
  have d0 := (Kd.R_celln (0 : Int) h.row (m : Int) (by omega) (by omega)).1
  rw [show rdOf 0 xs (m : Int) = rd xs (m : Int) from rfl] at d0
  rw [show xs.length - 1 = m from by omega] at HX ⊢
  obtain ⟨y, hy⟩ : ∃ y, rd xs (m : Int) = y := ⟨_, rfl⟩
  rw [hy] at d0 ⊢
  rw [hm] at c0 hc
  rw [Int.toNat_natCast] at d0
  clear h ht hy
  go_enter Try.func79, Try.ntmps79
  go_wp2_with fail
  go_ret
  exact ⟨rfl, _, HX.out, (Foot.refl _ w).setCell (fun _ => .inl rfl) _⟩
end Go.Proofs.Ytpbaebjohioijaa.Lat
namespace Go.Proofs.Ytpbaebjohioijaa.Lat
open Go.RowKit Go.Proofs.YtpbaebjohioijaaW.PrintWords Go.Proofs.YtpbaebjohioijaaW.PrintLast Go.Proofs.YtpbaebjohioijaaW.PrintMore Go.Proofs.Ytpbaebjohioijaa.PSolveLeast
set_option linter.unusedVariables false
set_option linter.unusedSimpArgs false
variable {Z : Nat → Prop} {base rb : Nat} {v : Value} {xs : List Int} {w w' : World}
theorem rd_get (xs : List Int) (i : Int) (h0 : 0 ≤ i) (h : i < xs.length) : rd xs i = xs[i.toNat]'(by omega) := by
  unfold rd
  rw [List.getD_eq_getElem?_getD, List.getElem?_eq_getElem (by omega)]
  rfl
theorem swap_perm (xs : List Int) (i j : Int) (hi : 0 ≤ i ∧ i < xs.length) (hj : 0 ≤ j ∧ j < xs.length) : ((xs.set i.toNat (rd xs j)).set j.toNat (rd xs i)).Perm xs := by
  rw [rd_get xs i hi.1 hi.2, rd_get xs j hj.1 hj.2]
  exact List.set_set_perm (by omega) (by omega)
theorem RF.trans {w1 w2 : World} (h : Foot (RF Z rb) w w1) (k : Foot (RF Z rb) w1 w2) : Foot (RF Z rb) w w2 := h.trans k (fun _ h _ => h)
theorem RF.of_below {w1 w2 : World} (h : Foot (RF Z rb) w w1) (k : Below w1.heap.size w1 w2) : Foot (RF Z rb) w w2 := RF.trans h (Foot.of_below k)
theorem RF.of_Z {w1 w2 : World} (h : Foot (RF Z rb) w w1) (k : Foot Z w1 w2) : Foot (RF Z rb) w w2 := RF.trans h (k.mono (fun _ h _ => .inr h))
set_option maxRecDepth 100000 in
theorem up59 (h : HR Z base rb v xs w) (j : Nat) (hj : j < xs.length) (hl : xs.length ≤ 1000000) : Calls Try.prog 59 #[.iface 65 (.pointer (some ⟨rb, 0, none⟩)), .int .i64 j] w fun e w' => e = .returned (.tuple #[]) ∧ ∃ ys, HR Z base rb v ys w' ∧ ys.Perm xs ∧ Foot (RF Z rb) w w' := by
  have HH := Aside0.mk h
  clear h
  go_enter Try.func59, Try.ntmps59
  go_wp2_with fail
  go_loopw [1] (fun i wr => ∃ (m : Nat) (ys : List Int), i = .int .i64 m ∧ m < xs.length ∧ Aside0 (HR Z base rb v ys wr) ∧ Aside0 (ys.Perm xs) ∧ Aside0 (Foot (RF Z rb) w wr)) (fun i _ => (intOf i).toNat)
  case atStart => exact ⟨j, xs, rfl, hj, HH, ⟨List.Perm.refl _⟩, ⟨Foot.refl _ _⟩⟩
  case round =>
    obtain ⟨m, ys, rfl, hm, HR1, HP, HF⟩ := hrel
    obtain ⟨wi, rfl⟩ : ∃ wi : World, wi = wr := ⟨_, rfl⟩
    have hyl : ys.length = xs.length := HP.out.length_eq
    have ml := HR1.out.mless
    cases m with
    | zero =>
      go_wp2_with fail
      refine bodyPost_end (results_none rfl _ _ _) rfl ?_
      exact ⟨rfl, ys, HR1.out, HP.out, HF.out⟩
    | succ q =>
      have CL := Aside0.mk (less_any HR1.out ((q : Int) + 1) ((q : Int) / 2) ⟨by omega, by omega⟩ ⟨by omega, by omega⟩)
      obtain ⟨bl, hbl⟩ : ∃ b, decide (rd ys ((q : Int) + 1) < rd ys ((q : Int) / 2)) = b := ⟨_, rfl⟩
      rw [hbl] at CL
      clear hbl
      go_wp2_with fail
      refine CL.out.mono ?_
      rintro e w2 ⟨rfl, b⟩
      have HR2 := Aside0.mk (HR1.out.below b)
      have HF2 := Aside0.mk (RF.of_below HF.out b)
      have ms := HR2.out.mswap
      clear ml b CL
      cases bl with
      | false =>
        go_wp2_with fail
        refine bodyPost_end (results_none rfl _ _ _) rfl ?_
        exact ⟨rfl, ys, HR2.out, HP.out, HF2.out⟩
      | true =>
        have CS := Aside0.mk (swap_any HR2.out ((q : Int) / 2) ((q : Int) + 1) ⟨by omega, by omega⟩ ⟨by omega, by omega⟩)
        have PS := Aside0.mk ((swap_perm ys ((q : Int) / 2) ((q : Int) + 1) ⟨by omega, by omega⟩ ⟨by omega, by omega⟩).trans HP.out)
        obtain ⟨zs, hzs⟩ : ∃ zs, (ys.set ((q : Int) / 2).toNat (rd ys ((q : Int) + 1))).set ((q : Int) + 1).toNat (rd ys ((q : Int) / 2)) = zs := ⟨_, rfl⟩
        rw [hzs] at CS PS
        clear hzs
        go_wp2_with fail
        refine CS.out.mono ?_
        rintro e w3 ⟨rfl, hr, hf⟩
        have HR3 := Aside0.mk hr
        have HF3 := Aside0.mk (RF.of_Z HF2.out hf)
        clear hr hf CS ms
        go_wp2_with fail
        go_roundw
        case rel => exact ⟨q / 2, zs, rfl, by omega, HR3, PS, HF3⟩
        case measure => simp [intOf]; omega

set_option maxRecDepth 100000 in
set_option maxHeartbeats 4000000 in
theorem down50 (h : HR Z base rb v xs w) (n : Nat) (hn : n ≤ xs.length) (hl : xs.length ≤ 1000000) : Calls Try.prog 50 #[.iface 65 (.pointer (some ⟨rb, 0, none⟩)), .int .i64 0, .int .i64 n] w fun e w' => (∃ b, e = .returned (.bool b)) ∧ ∃ ys, HR Z base rb v ys w' ∧ ys.Perm xs ∧ Foot (RF Z rb) w w' := by
  have HH := Aside0.mk h
  clear h
  go_enter Try.func50, Try.ntmps50
  go_wp2_with fail
  go_loopw [7] (fun i wr => ∃ (m : Nat) (ys : List Int), i = .int .i64 m ∧ m ≤ xs.length ∧ Aside0 (HR Z base rb v ys wr) ∧ Aside0 (ys.Perm xs) ∧ Aside0 (Foot (RF Z rb) w wr)) (fun i _ => xs.length - (intOf i).toNat)
  case atStart => exact ⟨0, xs, rfl, Nat.zero_le _, HH, ⟨List.Perm.refl _⟩, ⟨Foot.refl _ _⟩⟩
  case round =>
    obtain ⟨m, ys, rfl, hm, HR1, HP, HF⟩ := hrel
    obtain ⟨wi, rfl⟩ : ∃ wi : World, wi = wr := ⟨_, rfl⟩
    have hyl : ys.length = xs.length := HP.out.length_eq
    have ml := HR1.out.mless
    by_cases hj : (n : Int) ≤ 2 * (m : Int) + 1
    · go_wp2_with fail
      go_ret
      exact ⟨⟨_, rfl⟩, ys, HR1.out, HP.out, HF.out⟩
    · have hj' : ¬ ((n : Int) ≤ 2 * (m : Int) + 1) := hj

      by_cases hk : 2 * (m : Int) + 1 + 1 < (n : Int)
      · have CL := Aside0.mk (less_any HR1.out (2 * (m : Int) + 1 + 1) (2 * (m : Int) + 1) ⟨by omega, by omega⟩ ⟨by omega, by omega⟩)
        obtain ⟨bl, hbl⟩ : ∃ b, decide (rd ys (2 * (m : Int) + 1 + 1) < rd ys (2 * (m : Int) + 1)) = b := ⟨_, rfl⟩
        rw [hbl] at CL
        clear hbl
        go_wp2_with fail
        refine CL.out.mono ?_
        rintro e w2 ⟨rfl, b⟩
        have HR2 := Aside0.mk (HR1.out.below b)
        have HF2 := Aside0.mk (RF.of_below HF.out b)
        have ml2 := HR2.out.mless
        clear ml b CL
        cases bl with
        | false =>
          have CL2 := Aside0.mk (less_any HR2.out (2 * (m : Int) + 1) (m : Int) ⟨by omega, by omega⟩ ⟨by omega, by omega⟩)
          obtain ⟨bl2, hbl2⟩ : ∃ b, decide (rd ys (2 * (m : Int) + 1) < rd ys (m : Int)) = b := ⟨_, rfl⟩
          rw [hbl2] at CL2
          clear hbl2
          go_wp2_with fail
          refine CL2.out.mono ?_
          rintro e w3 ⟨rfl, b⟩
          have HR3 := Aside0.mk (HR2.out.below b)
          have HF3 := Aside0.mk (RF.of_below HF2.out b)
          have ms := HR3.out.mswap
          clear b CL2 ml2
          cases bl2 with
          | false =>
            go_wp2_with fail
            go_ret
            exact ⟨⟨_, rfl⟩, ys, HR3.out, HP.out, HF3.out⟩
          | true =>
            have CS := Aside0.mk (swap_any HR3.out (m : Int) (2 * (m : Int) + 1) ⟨by omega, by omega⟩ ⟨by omega, by omega⟩)
            have PS := Aside0.mk ((swap_perm ys (m : Int) (2 * (m : Int) + 1) ⟨by omega, by omega⟩ ⟨by omega, by omega⟩).trans HP.out)
            obtain ⟨zs, hzs⟩ : ∃ zs, (ys.set (m : Int).toNat (rd ys (2 * (m : Int) + 1))).set (2 * (m : Int) + 1).toNat (rd ys (m : Int)) = zs := ⟨_, rfl⟩
            rw [hzs] at CS PS
            clear hzs
            go_wp2_with fail
            refine CS.out.mono ?_
            rintro e w4 ⟨rfl, hr, hf⟩
            have HR4 := Aside0.mk hr
            have HF4 := Aside0.mk (RF.of_Z HF3.out hf)
            clear hr hf CS ms
            go_wp2_with fail
            go_roundw
            case rel => exact ⟨2 * m + 1, zs, by first | rfl | go_num, by omega, HR4, PS, HF4⟩
            case measure => simp [intOf]; omega
        | true =>
          have CL2 := Aside0.mk (less_any HR2.out (2 * (m : Int) + 1 + 1) (m : Int) ⟨by omega, by omega⟩ ⟨by omega, by omega⟩)
          obtain ⟨bl2, hbl2⟩ : ∃ b, decide (rd ys (2 * (m : Int) + 1 + 1) < rd ys (m : Int)) = b := ⟨_, rfl⟩
          rw [hbl2] at CL2
          clear hbl2
          go_wp2_with fail
          refine CL2.out.mono ?_
          rintro e w3 ⟨rfl, b⟩
          have HR3 := Aside0.mk (HR2.out.below b)
          have HF3 := Aside0.mk (RF.of_below HF2.out b)
          have ms := HR3.out.mswap
          clear b CL2 ml2
          cases bl2 with
          | false =>
            go_wp2_with fail
            go_ret
            exact ⟨⟨_, rfl⟩, ys, HR3.out, HP.out, HF3.out⟩
          | true =>
            have CS := Aside0.mk (swap_any HR3.out (m : Int) (2 * (m : Int) + 1 + 1) ⟨by omega, by omega⟩ ⟨by omega, by omega⟩)
            have PS := Aside0.mk ((swap_perm ys (m : Int) (2 * (m : Int) + 1 + 1) ⟨by omega, by omega⟩ ⟨by omega, by omega⟩).trans HP.out)
            obtain ⟨zs, hzs⟩ : ∃ zs, (ys.set (m : Int).toNat (rd ys (2 * (m : Int) + 1 + 1))).set (2 * (m : Int) + 1 + 1).toNat (rd ys (m : Int)) = zs := ⟨_, rfl⟩
            rw [hzs] at CS PS
            clear hzs
            go_wp2_with fail
            refine CS.out.mono ?_
            rintro e w4 ⟨rfl, hr, hf⟩
            have HR4 := Aside0.mk hr
            have HF4 := Aside0.mk (RF.of_Z HF3.out hf)
            clear hr hf CS ms
            go_wp2_with fail
            go_roundw
            case rel => exact ⟨2 * m + 1 + 1, zs, by first | rfl | go_num, by omega, HR4, PS, HF4⟩
            case measure => simp [intOf]; omega
      · skip
        have CL2 := Aside0.mk (less_any HR1.out (2 * (m : Int) + 1) (m : Int) ⟨by omega, by omega⟩ ⟨by omega, by omega⟩)
        obtain ⟨bl2, hbl2⟩ : ∃ b, decide (rd ys (2 * (m : Int) + 1) < rd ys (m : Int)) = b := ⟨_, rfl⟩
        rw [hbl2] at CL2
        clear hbl2
        go_wp2_with fail
        refine CL2.out.mono ?_
        rintro e w3 ⟨rfl, b⟩
        have HR3 := Aside0.mk (HR1.out.below b)
        have HF3 := Aside0.mk (RF.of_below HF.out b)
        have ms := HR3.out.mswap
        clear b CL2 ml
        cases bl2 with
        | false =>
          go_wp2_with fail
          go_ret
          exact ⟨⟨_, rfl⟩, ys, HR3.out, HP.out, HF3.out⟩
        | true =>
          have CS := Aside0.mk (swap_any HR3.out (m : Int) (2 * (m : Int) + 1) ⟨by omega, by omega⟩ ⟨by omega, by omega⟩)
          have PS := Aside0.mk ((swap_perm ys (m : Int) (2 * (m : Int) + 1) ⟨by omega, by omega⟩ ⟨by omega, by omega⟩).trans HP.out)
          obtain ⟨zs, hzs⟩ : ∃ zs, (ys.set (m : Int).toNat (rd ys (2 * (m : Int) + 1))).set (2 * (m : Int) + 1).toNat (rd ys (m : Int)) = zs := ⟨_, rfl⟩
          rw [hzs] at CS PS
          clear hzs
          go_wp2_with fail
          refine CS.out.mono ?_
          rintro e w4 ⟨rfl, hr, hf⟩
          have HR4 := Aside0.mk hr
          have HF4 := Aside0.mk (RF.of_Z HF3.out hf)
          clear hr hf CS ms
          go_wp2_with fail
          go_roundw
          case rel => exact ⟨2 * m + 1, zs, by first | rfl | go_num, by omega, HR4, PS, HF4⟩
          case measure => simp [intOf]; omega

set_option maxRecDepth 100000 in
theorem push49 (h : HR Z base rb v xs w) (x : Int) (hl : xs.length < 1000000) : Calls Try.prog 49 #[.iface 65 (.pointer (some ⟨rb, 0, none⟩)), .iface 3 (.int .i64 x)] w fun e w' => e = .returned (.tuple #[]) ∧ ∃ v' ys, HR Z base rb v' ys w' ∧ ys.Perm (x :: xs) ∧ Foot (RF Z rb) w w' := by
  have CP := Aside0.mk (push80 h x (by omega))
  have mp := m_push ⟨rb, 0, none⟩ w
  clear h
  go_enter Try.func49, Try.ntmps49
  go_wp2_with fail
  refine CP.out.mono ?_
  rintro e w1 ⟨rfl, v1, hr, hf⟩
  have HR1 := Aside0.mk hr
  have HF1 := Aside0.mk hf
  have ml := HR1.out.mlen
  have CL := Aside0.mk (len_any HR1.out)
  rw [show (xs ++ [x]).length = xs.length + 1 from by simp] at CL
  clear hr hf CP mp
  go_wp2_with fail
  refine CL.out.mono ?_
  rintro e w2 ⟨rfl, rfl⟩
  have CU := Aside0.mk (up59 HR1.out xs.length (by simp) (by simp; omega))
  clear CL ml
  go_wp2_with fail
  refine CU.out.mono ?_
  rintro e w2 ⟨rfl, ys, hr, hp, hf⟩
  have HR2 := Aside0.mk hr
  have HP2 := Aside0.mk (hp.trans (List.perm_append_comm (l₁ := xs) (l₂ := [x])))
  have HF2 := Aside0.mk (RF.trans HF1.out hf)
  clear hr hp hf CU
  go_wp2_with fail
  refine bodyPost_end (results_none rfl _ _ _) rfl ?_
  exact ⟨rfl, v1, ys, HR2.out, HP2.out, HF2.out⟩
theorem last_perm (ys : List Int) (h : 0 < ys.length) : (rd ys ((ys.length - 1 : Nat) : Int) :: ys.take (ys.length - 1)).Perm ys := by
  have e : rd ys ((ys.length - 1 : Nat) : Int) = ys[ys.length - 1]'(by omega) := by
    rw [rd_get ys _ (by omega) (by omega)]
    simp
  rw [e]
  have := List.take_append_getElem (l := ys) (i := ys.length - 1) (by omega)
  rw [show ys.length - 1 + 1 = ys.length from by omega, List.take_length] at this
  exact (List.perm_append_comm (l₁ := [_]) (l₂ := ys.take (ys.length - 1))).trans (by rw [this])
set_option maxRecDepth 100000 in
set_option maxHeartbeats 1000000 in
theorem pop26 (h : HR Z base rb v xs w) (hp : 0 < xs.length) (hl : xs.length ≤ 1000000) : Calls Try.prog 26 #[.iface 65 (.pointer (some ⟨rb, 0, none⟩))] w fun e w' => ∃ x, e = .returned (.iface 3 (.int .i64 x)) ∧ ∃ v' ys, HR Z base rb v' ys w' ∧ (x :: ys).Perm xs ∧ Foot (RF Z rb) w w' := by
  have HH := Aside0.mk h
  have ml := h.mlen
  have CL := Aside0.mk (len_any h)
  obtain ⟨m, hm⟩ : ∃ m, xs.length = m + 1 := ⟨xs.length - 1, by omega⟩
  rw [hm] at CL
  clear h
  go_enter Try.func26, Try.ntmps26
  go_wp2_with fail
  refine CL.out.mono ?_
  rintro e w1 ⟨rfl, rfl⟩
  have ms := HH.out.mswap
  have CS := Aside0.mk (swap_any HH.out 0 (m : Int) ⟨by omega, by omega⟩ ⟨by omega, by omega⟩)
  have PS := Aside0.mk (swap_perm xs 0 (m : Int) ⟨by omega, by omega⟩ ⟨by omega, by omega⟩)
  obtain ⟨zs, hzs⟩ : ∃ zs, (xs.set (0 : Int).toNat (rd xs (m : Int))).set (m : Int).toNat (rd xs 0) = zs := ⟨_, rfl⟩
  rw [hzs] at CS PS
  have hzl : zs.length = m + 1 := by rw [PS.out.length_eq, hm]
  clear CL ml hzs
  go_wp2_with fail
  refine CS.out.mono ?_
  rintro e w1 ⟨rfl, hr, hf⟩
  have HR1 := Aside0.mk hr
  have HF1 := Aside0.mk (hf.mono (T := RF Z rb) (fun _ h _ => .inr h))
  have CD := Aside0.mk (down50 HR1.out m (by omega) (by omega))
  clear hr hf CS ms
  go_wp2_with fail
  refine CD.out.mono ?_
  rintro e w2 ⟨⟨bb, rfl⟩, ys, hr, hp2, hf⟩
  have HR2 := Aside0.mk hr
  have HP2 := Aside0.mk (hp2.trans PS.out)
  have HF2 := Aside0.mk (RF.trans HF1.out hf)
  have hyl : ys.length = m + 1 := by rw [hp2.length_eq, hzl]
  have mp := m_pop ⟨rb, 0, none⟩ w2
  have CP := Aside0.mk (pop79 HR2.out (by omega) (by omega))
  have HP3 := Aside0.mk ((last_perm ys (by omega)).trans HP2.out)
  obtain ⟨x, hx⟩ : ∃ x, rd ys ((ys.length - 1 : Nat) : Int) = x := ⟨_, rfl⟩
  rw [hx] at CP HP3
  clear hr hp2 hf CD hx
  go_wp2_with fail
  refine CP.out.mono ?_
  rintro e w3 ⟨rfl, v3, hr, hf⟩
  have HR3 := Aside0.mk hr
  have HF3 := Aside0.mk (RF.trans HF2.out hf)
  clear hr hf CP mp
  go_wp2_with fail
  go_ret
  exact ⟨x, rfl, v3, _, HR3.out, HP3.out, HF3.out⟩

end Go.Proofs.Ytpbaebjohioijaa.Lat
