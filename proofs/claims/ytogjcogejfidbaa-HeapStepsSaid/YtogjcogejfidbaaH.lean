import Derived.Test.YtogjcogejfidbaaG
import Derived.StillTailTactics
namespace Go.Proofs.Ytogjcogejfidbaa.Heap
open Go.RowKit Go.Proofs.YtogjcogejfidbaaW.PrintWords Go.Proofs.YtogjcogejfidbaaW.PrintLast Go.Proofs.YtogjcogejfidbaaW.PrintMore Go.Proofs.Ytogjcogejfidbaa.PHeapSteps
set_option linter.unusedVariables false
set_option linter.unusedSimpArgs false

theorem results_tct {P : Program} {fn : Func} {p u v : Tmp} {ty : TypeId} (h : fn.results = #[.tmp u, .cell p ty, .tmp v]) (tmps : Array Value) (w : World) (g : Nat) (t : TypeId) (cs : Array Value) (fr : Nat × Nat) (d : TypeDesc)
    (hp : tmps.getD p undef = .pointer (some ⟨g, 0, none⟩)) (hg : w.heap[g]? = some (.cells cs t fr))
    (hu : P.underlying ty = some d) (hd : (match d with | .struct _ | .array _ _ => true | _ => false) = true) (hi : (P.info? ty).map (·.size) = some cs.size) :
    (results fn tmps).run P w = .ok (.tuple #[tmps.getD u undef, .agg cs, tmps.getD v undef]) w := by
  have hp' : tmps[p]?.getD undef = .pointer (some ⟨g, 0, none⟩) := by simpa using hp
  simp [results, h, hp', asAddr, run_loadVar_row w g t ty cs fr d hg hu hd hi]

theorem of_of_no (h : Addr) (a : Int) (w : World)
    (hw : ∀ W, Below w.heap.size w W → Calls Try.prog 27 #[.pointer (some h), .int .i64 a] W fun e w' => e = .returned (.tuple #[.int .i64 0, .int .i64 0, .pointer none]) ∧ W = w') :
    Calls Try.prog 18 #[.pointer (some h), .int .i64 a] w fun e w' => e = .returned (.tuple #[.int .i64 0, .agg #[.int .i64 0, .int .i64 0, .int .i64 0, .int .i64 0], .bool false]) ∧ Below w.heap.size w w' := by
  have HW := Aside0.mk (hw _ (below_alloc (Below.refl _ _) (.cells #[.int .i64 0, .int .i64 0, .int .i64 0, .int .i64 0] 51)))
  clear hw
  go_enter Try.func18, Try.ntmps18
  go_wp2_with (go_at_call 27; refine (HW.out).mono ?_; rintro e w' ⟨rfl, rfl⟩)
  exact bodyPost_ret (results_tct rfl _ _ w.heap.size 51 #[.int .i64 0, .int .i64 0, .int .i64 0, .int .i64 0] (0, 0) _ rfl (blk_new _ _) Try.underlying51 rfl (by kernel_rfl)) rfl ⟨rfl, below_alloc (Below.refl _ _) _⟩

theorem found_of {os : List S51} {N k : Int} (hc : Contig 0 os N) (hk0 : 0 ≤ k) (hkN : k < N) {m : Nat} (hm1 : m ≤ os.length) (hm2 : ∀ i : Nat, i < m → (rd_T51 os i).f0 < k) (hm3 : ∀ i : Nat, m ≤ i → i < os.length → k ≤ (rd_T51 os i).f0)
    {fd : Bool} (hfd : decide (m < os.length ∧ (rd_T51 os m).f0 = k) = fd) : ∃ i, i < os.length ∧ objAt os k = rd_T51 os i ∧ (m = if fd then i else i + 1) := by
  cases fd with
  | true =>
    obtain ⟨h1, h2⟩ := of_decide_eq_true hfd
    have := contig_rise hc m h1
    exact ⟨m, h1, objAt_of hc m h1 (by omega) (by omega), rfl⟩
  | false =>
    have hf := of_decide_eq_false hfd
    have hl : 0 < os.length := by
      cases os with
      | nil => simp [Contig] at hc; omega
      | cons o os => simp
    have h0 : (rd_T51 os (0 : Nat)).f0 = 0 := by
      cases os with
      | nil => simp at hl
      | cons o os => obtain ⟨h1, _⟩ := hc; simpa [rd_T51] using h1
    have hm0 : 0 < m := by
      rcases Nat.eq_zero_or_pos m with rfl | h
      · have := hm3 0 (Nat.le_refl _) hl
        exact absurd ⟨hl, by omega⟩ hf
      · exact h
    obtain ⟨i, rfl⟩ : ∃ i, m = i + 1 := ⟨m - 1, by omega⟩
    have h1 := hm2 i (by omega)
    have h2 := contig_last hc i (by omega)
    refine ⟨i, by omega, objAt_of hc i (by omega) (by omega) ?_, rfl⟩
    split at h2
    · rename_i hlt
      have h3 := hm3 (i + 1) (Nat.le_refl _) hlt
      have h4 : ¬ (rd_T51 os ((i + 1 : Nat) : Int)).f0 = k := fun e => hf ⟨hlt, e⟩
      omega
    · omega

set_option maxHeartbeats 400000 in
theorem of_of_yes (h : Addr) (a : Int) (w : World) (t k : Nat) (ab n c : Nat) (A1 : Option Addr) (c1 : Nat) (os : List S51) (N : Int)
    (hw : ∀ W, Below w.heap.size w W → ∃ ad, Calls Try.prog 27 #[.pointer (some h), .int .i64 a] W fun e w' => e = .returned (.tuple #[.int .i64 t, .int .i64 k, .pointer (some ad)]) ∧ Drawn0 W w')
    (h0 : w.cell? h = some (.slice (some ⟨ab, 0, none⟩) n c)) (ht : t < n) (hn : n ≤ 4)
    (h1 : w.cell? ⟨ab, t * 2 + 1, none⟩ = some (.slice A1 os.length c1)) (hr : Kd.C k51 w A1 os.length os) (hl : os.length ≤ 64) (hk : k ≤ 64) (hc : Contig 0 os N) (hN : N ≤ 64) (hkN : (k : Int) < N) (x : S51) (hxo : objAt os k = x) :
    Calls Try.prog 18 #[.pointer (some h), .int .i64 a] w fun e w' => e = .returned (.tuple #[.int .i64 t, .agg #[.int .i64 x.f0, .int .i64 x.f1, .int .i64 x.f2, .int .i64 x.f3], .bool true]) ∧ Below w.heap.size w w' := by
  obtain ⟨ad, hw⟩ := (hw _ (below_alloc (Below.refl _ _) (.cells #[.int .i64 0, .int .i64 0, .int .i64 0, .int .i64 0] 51)))
  have HW := Aside0.mk hw
  clear hw
  have HR := Aside0.mk hr
  have HC := Aside0.mk hc
  have HX := Aside0.mk (show ∀ i, i < os.length → 0 ≤ (rd_T51 os i).f0 ∧ (rd_T51 os i).f0 ≤ 64 from fun i hi => by have := contig_rise hc i hi; omega)
  have HS := Aside0.mk (show ∀ i j, i < j → j < os.length → (rd_T51 os i).f0 < (rd_T51 os j).f0 from fun i j hi hj => by have := contig_next hc i j hi hj; have := contig_rise hc i (by omega); omega)
  clear hr hc
  have hg := World.block_lt_of_cell? w _ h0
  have hg1 := World.block_lt_of_cell? w _ h1
  go_enter Try.func18, Try.ntmps18
  go_wp2_with (first
   | (go_at_call 27; refine (HW.out).mono ?_; rintro e w' ⟨rfl, ⟨nn, rfl⟩⟩)
   | fail)
  refine (bsearch A1 c1 os k _ (Kd.C_drewN (Kd.C_alloc HR.out _) nn) hl (by omega) (by omega) HX.out HS.out).mono ?_
  rintro e w' ⟨⟨m, hm1, hm2, hm3, rfl⟩, hb'⟩
  have HW' := Aside0.mk hb'
  have hsz := hb'.size
  obtain ⟨fd, hfd⟩ : ∃ fd, decide (m < os.length ∧ (rd_T51 os ↑m).f0 = ↑k) = fd := ⟨_, rfl⟩
  rw [hfd]
  have hres := blk_below (blk_drewN (blk_new w (.cells #[.int .i64 0, .int .i64 0, .int .i64 0, .int .i64 0] 51)) nn) hb'
  obtain ⟨i, hi, hob, hmi⟩ := found_of HC.out (by omega) hkN hm1 hm2 hm3 hfd
  clear hm1 hm2 hm3 hfd hw
  obtain ⟨ad1, hA, g0, g1, g2, g3⟩ := at_T51 (Kd.C_below (Kd.C_drewN (Kd.C_alloc HR.out _) nn) hb') (i : Int) (by omega) (by omega)
  subst hA
  rw [← hob] at g0 g1 g2 g3
  rw [Int.toNat_natCast] at g0 g1 g2 g3
  rw [hxo] at g0 g1 g2 g3
  have c0 := blk_cell hres 0
  have c1 := blk_cell hres 1
  have c2 := blk_cell hres 2
  have c3 := blk_cell hres 3
  have z0 := blk_frozen hres 0
  have z1 := blk_frozen hres 1
  have z2 := blk_frozen hres 2
  have z3 := blk_frozen hres 3
  have HRES := Aside0.mk hres
  have HBW : Aside0 (Below w.heap.size w w') := ⟨below_then (pw_below_drewN (below_alloc (Below.refl _ _) _) nn) (by simp) hb'⟩
  clear hres hb' hob hxo
  cases fd with
  | true =>
    obtain rfl : m = i := hmi
    go_wp2
    go_region
    go_wp2
    exact bodyPost_ret (results_tct rfl _ _ w.heap.size 51 #[.int .i64 x.f0, .int .i64 x.f1, .int .i64 x.f2, .int .i64 x.f3] (0, 0) _ rfl (blk_drew (blk_set (blk_set (blk_set (blk_set HRES.out 0 _) 1 _) 2 _) 3 _)) Try.underlying51 rfl (by kernel_rfl)) rfl
      ⟨rfl, ((((HBW.out.setCell (Nat.le_refl _) _).setCell (Nat.le_refl _) _).setCell (Nat.le_refl _) _).setCell (Nat.le_refl _) _).drew⟩
  | false =>
    obtain rfl : m = i + 1 := hmi
    go_wp2
    go_region
    go_wp2
    exact bodyPost_ret (results_tct rfl _ _ w.heap.size 51 #[.int .i64 x.f0, .int .i64 x.f1, .int .i64 x.f2, .int .i64 x.f3] (0, 0) _ rfl (blk_drew (blk_set (blk_set (blk_set (blk_set HRES.out 0 _) 1 _) 2 _) 3 _)) Try.underlying51 rfl (by kernel_rfl)) rfl
      ⟨rfl, ((((HBW.out.setCell (Nat.le_refl _) _).setCell (Nat.le_refl _) _).setCell (Nat.le_refl _) _).setCell (Nat.le_refl _) _).drew⟩
end Go.Proofs.Ytogjcogejfidbaa.Heap
