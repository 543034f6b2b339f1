import Derived.Test.YtdapiibllblpbaaDoorX0
import Derived.Test.YtdapiibllblpbaaDoorT
namespace Go.Proofs.YtdapiibllblpbaaDoor.Code
open Go.RowKit Go.Proofs.YtdapiibllblpbaaDoorW.PrintWords Go.Proofs.YtdapiibllblpbaaDoorW.PrintLast Go.Proofs.YtdapiibllblpbaaDoorW.PrintMore Go.Proofs.YtdapiibllblpbaaDoor.PCodeAnswers
set_option linter.unusedVariables false
set_option linter.unusedSimpArgs false

/-! ### A function whose operations' blocks are told apart -/
/-- A row within an element, its own elements' blocks told apart. -/
def sliceS {α : Type} (e : Nat) (d : Kd α) : Kd (List α) where
  sz := 1
  E := e :: d.E
  K := (Kd.slice e d).K
  M := fun w base ok xs cs => ∃ v, cs = [v] ∧ Kd.S d e w base ok v xs
  K_len := (Kd.slice e d).K_len
  K_one := (Kd.slice e d).K_one
  K_below := (Kd.slice e d).K_below
  K_of_M := by
    rintro w base ok x cs ⟨v, rfl, h⟩
    exact (Kd.slice e d).K_of_M ⟨v, rfl, Kd.S_R h⟩
  M_mono := by
    rintro w base ok ok' x cs hok ⟨v, rfl, h⟩
    exact ⟨v, rfl, Kd.S_mono h hok⟩
  M_bound := by
    rintro w base ok x cs ⟨v, rfl, h⟩
    exact ⟨v, rfl, Kd.S_bound h⟩
  M_move := by
    rintro w w1 base ok x cs hm ⟨v, rfl, h⟩
    exact ⟨v, rfl, Kd.S_move h hm⟩
  M_lower := by
    rintro w base base' ok x cs hb ⟨v, rfl, h⟩
    exact ⟨v, rfl, Kd.S_lower h hb⟩
def kF : Kd S39 := Kd.iso (Kd.pair Kd.string (Kd.pair (Kd.int .i64) (Kd.pair (Kd.int .i64) (Kd.pair (Kd.int .i64) (sliceS 42 k42))))) (fun x : S39 => (x.f0, x.f1, x.f2, x.f3, x.f4))
theorem kF_C (w : World) (A : Option Addr) (n : Nat) (xs : List S39) (h : Kd.C kF w A n xs) : Kd.C k39 w A n xs := h
theorem kF_openM {w : World} {base : Nat} {ok : Nat → Prop} {x : S39} {cs : List Value} (h : kF.M w base ok x cs) : ∃ v4, cs = [.string x.f0, .int .i64 x.f1, .int .i64 x.f2, .int .i64 x.f3, v4] ∧ Kd.S k42 42 w base ok v4 x.f4 := by
  obtain ⟨_, _, rfl, rfl, ⟨_, _, rfl, rfl, ⟨_, _, rfl, rfl, ⟨_, _, rfl, rfl, ⟨v4, rfl, g4⟩⟩⟩⟩⟩ := h
  exact ⟨v4, rfl, g4⟩
theorem kF_mkM (w : World) (base : Nat) (ok : Nat → Prop) (x : S39) {v4 : Value} (g4 : Kd.S k42 42 w base ok v4 x.f4) : kF.M w base ok x [.string x.f0, .int .i64 x.f1, .int .i64 x.f2, .int .i64 x.f3, v4] := ⟨[.string x.f0], [.int .i64 x.f1, .int .i64 x.f2, .int .i64 x.f3, v4], rfl, rfl, ⟨[.int .i64 x.f1], [.int .i64 x.f2, .int .i64 x.f3, v4], rfl, rfl, ⟨[.int .i64 x.f2], [.int .i64 x.f3, v4], rfl, rfl, ⟨[.int .i64 x.f3], [v4], rfl, rfl, ⟨v4, rfl, g4⟩⟩⟩⟩⟩
end Go.Proofs.YtdapiibllblpbaaDoor.Code
namespace Go.Proofs.YtdapiibllblpbaaDoor.Code
open Go.RowKit Go.Proofs.YtdapiibllblpbaaDoorW.PrintWords Go.Proofs.YtdapiibllblpbaaDoorW.PrintLast Go.Proofs.YtdapiibllblpbaaDoorW.PrintMore Go.Proofs.YtdapiibllblpbaaDoor.PCodeAnswers
set_option linter.unusedVariables false
set_option linter.unusedSimpArgs false

/-- A module's words, its functions' one told apart. -/
def mdX (r : MdR) (m : Md) (vf : Value) : List Value := [.slice r.a0 m.globals.length r.c0, .slice r.a1 m.structs.length r.c1, .slice r.a2 m.chans.length r.c2, .slice r.a3 m.locks.length r.c3, .slice r.a4 m.inputs.length r.c4, .slice r.a5 m.sinks.length r.c5, .slice r.a6 m.hatches.length r.c6, vf, .slice r.a8 m.threads.length r.c8]
/-- Every slice has the room it says. -/
structure MdK (r : MdR) (m : Md) : Prop where
  k0 : m.globals.length ≤ r.c0
  k1 : m.structs.length ≤ r.c1
  k2 : m.chans.length ≤ r.c2
  k3 : m.locks.length ≤ r.c3
  k4 : m.inputs.length ≤ r.c4
  k5 : m.sinks.length ≤ r.c5
  k6 : m.hatches.length ≤ r.c6
  k7 : m.funcs.length ≤ r.c7
  k8 : m.threads.length ≤ r.c8
/-- A copied module's rows but the functions': between base and b7, none of them nb; the locks' below b4, the other texts' above. -/
structure MdN (base b4 b7 nb : Nat) (w : World) (r : MdR) (m : Md) : Prop where
  g0 : Kd.R k46 46 w base (fun k => k ≠ nb ∧ k < b7) (.slice r.a0 m.globals.length r.c0) m.globals
  g1 : Kd.R k46 46 w base (fun k => k ≠ nb ∧ k < b7) (.slice r.a1 m.structs.length r.c1) m.structs
  g2 : Kd.R k46 46 w base (fun k => k ≠ nb ∧ k < b7) (.slice r.a2 m.chans.length r.c2) m.chans
  g3 : Kd.R Kd.string 9 w base (fun k => (k ≠ nb ∧ k < b7) ∧ k < b4) (.slice r.a3 m.locks.length r.c3) m.locks
  g4 : Kd.R Kd.string 9 w base (fun k => (k ≠ nb ∧ k < b7) ∧ b4 ≤ k) (.slice r.a4 m.inputs.length r.c4) m.inputs
  g5 : Kd.R Kd.string 9 w base (fun k => (k ≠ nb ∧ k < b7) ∧ b4 ≤ k) (.slice r.a5 m.sinks.length r.c5) m.sinks
  g6 : Kd.R Kd.string 9 w base (fun k => (k ≠ nb ∧ k < b7) ∧ b4 ≤ k) (.slice r.a6 m.hatches.length r.c6) m.hatches
  g8 : Kd.R (Kd.int .i64) 3 w base (fun k => k ≠ nb ∧ k < b7) (.slice r.a8 m.threads.length r.c8) m.threads
theorem MdN.step {base b4 b7 nb : Nat} {w w1 : World} {r : MdR} {m : Md} (h : MdN base b4 b7 nb w r m) (hm : ∀ k, base ≤ k → k < b7 → k ≠ nb → w1.heap[k]? = w.heap[k]?) : MdN base b4 b7 nb w1 r m :=
  ⟨Kd.R_mono (Kd.R_move (Kd.R_bound h.g0) (fun k hk => hm k hk.2.1 hk.1.2 hk.1.1)) (fun _ hk => hk.1),
   Kd.R_mono (Kd.R_move (Kd.R_bound h.g1) (fun k hk => hm k hk.2.1 hk.1.2 hk.1.1)) (fun _ hk => hk.1),
   Kd.R_mono (Kd.R_move (Kd.R_bound h.g2) (fun k hk => hm k hk.2.1 hk.1.2 hk.1.1)) (fun _ hk => hk.1),
   Kd.R_mono (Kd.R_move (Kd.R_bound h.g3) (fun k hk => hm k hk.2.1 hk.1.1.2 hk.1.1.1)) (fun _ hk => hk.1),
   Kd.R_mono (Kd.R_move (Kd.R_bound h.g4) (fun k hk => hm k hk.2.1 hk.1.1.2 hk.1.1.1)) (fun _ hk => hk.1),
   Kd.R_mono (Kd.R_move (Kd.R_bound h.g5) (fun k hk => hm k hk.2.1 hk.1.1.2 hk.1.1.1)) (fun _ hk => hk.1),
   Kd.R_mono (Kd.R_move (Kd.R_bound h.g6) (fun k hk => hm k hk.2.1 hk.1.1.2 hk.1.1.1)) (fun _ hk => hk.1),
   Kd.R_mono (Kd.R_move (Kd.R_bound h.g8) (fun k hk => hm k hk.2.1 hk.1.2 hk.1.1)) (fun _ hk => hk.1)⟩
/-- A module of the call's own. -/
structure MdO (base : Nat) (w : World) (r : MdR) (m : Md) : Prop where
  n : ∃ b4 b7 nb, MdN base b4 b7 nb w r m ∧ Kd.S kF 39 w b7 (fun _ => True) (.slice r.a7 m.funcs.length r.c7) m.funcs ∧ base ≤ b7
theorem MdO.reads {base : Nat} {w : World} {r : MdR} {m : Md} (h : MdO base w r m) : MdC w r m ∧ MdK r m := by
  obtain ⟨b4, b7, nb, n, s, _⟩ := h.n
  obtain ⟨_, l0, c0⟩ := Kd.R_reads' n.g0
  obtain ⟨_, l1, c1⟩ := Kd.R_reads' n.g1
  obtain ⟨_, l2, c2⟩ := Kd.R_reads' n.g2
  obtain ⟨_, l3, c3⟩ := Kd.R_reads' n.g3
  obtain ⟨_, l4, c4⟩ := Kd.R_reads' n.g4
  obtain ⟨_, l5, c5⟩ := Kd.R_reads' n.g5
  obtain ⟨_, l6, c6⟩ := Kd.R_reads' n.g6
  obtain ⟨_, l7, c7⟩ := Kd.S_reads' s
  obtain ⟨_, l8, c8⟩ := Kd.R_reads' n.g8
  exact ⟨⟨c0, c1, c2, c3, c4, c5, c6, kF_C _ _ _ _ c7, c8⟩, ⟨l0, l1, l2, l3, l4, l5, l6, l7, l8⟩⟩
theorem take39 (l : List S39) (k : Nat) (hk : k < l.length) : l.take (k + 1) = l.take k ++ [rd_T39 l k] := by
  rw [List.take_succ_eq_append_getElem hk]
  congr 2
  unfold rd_T39
  rw [Int.toNat_natCast, List.getD_eq_getElem?_getD, List.getElem?_eq_getElem hk]
  rfl
theorem blk_frozen {w : World} {b : Nat} {vs : Array Value} {t : TypeId} (h : w.heap[b]? = some (.cells vs t (0, 0))) (j : Nat) : w.frozen? ⟨b, j, none⟩ = false := by
  simp [World.frozen?, h]
/-- How long the functions' code is. -/
def MdF (m : Md) : Prop := ∀ f ∈ m.funcs, f.f4.length ≤ 1000000
set_option maxRecDepth 100000 in
set_option maxHeartbeats 40000000 in
theorem Copy_any (m : Md) (r : MdR) (w : World) (hm : MdC w r m) (hkp : MdK r m) (hs : MdS m) (hz : MdZ m) (hfl : MdF m) :
    Calls Tryd.prog 10 #[.agg (mdW r m).toArray] w fun e w' => ∃ r', e = .returned (.agg (mdW r' m).toArray) ∧ MdO (w.heap.size + 2) w' r' m ∧ Below w.heap.size w w' := by
  have HM := Aside0.mk hm
  have HS := Aside0.mk hs
  have HZ := Aside0.mk hz
  have HFL0 : Aside0 (∀ f ∈ m.funcs, f.f4.length ≤ 1000000) := ⟨hfl⟩
  have hl7 := hs.l7
  obtain ⟨w0, hw⟩ : ∃ w0, (w.alloc (.cells (mdW r m).toArray 27)).alloc (.cells #[.slice none 0 0, .slice none 0 0, .slice none 0 0, .slice none 0 0, .slice none 0 0, .slice none 0 0, .slice none 0 0, .slice none 0 0, .slice none 0 0] 27) = w0 := ⟨_, rfl⟩
  have hsz0 : w0.heap.size = w.heap.size + 2 := by rw [← hw, World.size_alloc, World.size_alloc]
  have hw0 : w.heap.size ≤ w0.heap.size := by omega
  have b0 : Below w.heap.size w w0 := by rw [← hw]; exact below_alloc (below_alloc (Below.refl _ _) _) _
  have HBW0 := Aside0.mk b0
  have HNm : Aside0 (w0.heap[w.heap.size]? = some (.cells (mdW r m).toArray 27 (0, 0))) := ⟨by rw [← hw]; exact blk_below (blk_new w _) (below_alloc (Below.refl _ _) _)⟩
  have HNr : Aside0 (w0.heap[w.heap.size + 1]? = some (.cells #[.slice none 0 0, .slice none 0 0, .slice none 0 0, .slice none 0 0, .slice none 0 0, .slice none 0 0, .slice none 0 0, .slice none 0 0, .slice none 0 0] 27 (0, 0))) := ⟨by
    rw [← hw]
    have := blk_new (w.alloc (.cells (mdW r m).toArray 27)) (.cells #[.slice none 0 0, .slice none 0 0, .slice none 0 0, .slice none 0 0, .slice none 0 0, .slice none 0 0, .slice none 0 0, .slice none 0 0, .slice none 0 0] 27)
    rwa [World.size_alloc] at this⟩
  have hm0 := hm.below b0
  have CC0 : Aside0 (∀ W, Aside0 (Below w0.heap.size w0 W) → Calls Tryd.prog 23 #[.slice r.a0 m.globals.length r.c0] W fun e w' => ∃ B d, e = .returned (.slice B m.globals.length d) ∧ Kd.R k46 46 w' W.heap.size (fun _ => True) (.slice B m.globals.length d) m.globals ∧ Below W.heap.size W w') := ⟨fun W h => copySized_any r.a0 r.c0 m.globals W (hm0.below h.out).h0 hkp.k0 hs.l0⟩
  have CC1 : Aside0 (∀ W, Aside0 (Below w0.heap.size w0 W) → Calls Tryd.prog 23 #[.slice r.a1 m.structs.length r.c1] W fun e w' => ∃ B d, e = .returned (.slice B m.structs.length d) ∧ Kd.R k46 46 w' W.heap.size (fun _ => True) (.slice B m.structs.length d) m.structs ∧ Below W.heap.size W w') := ⟨fun W h => copySized_any r.a1 r.c1 m.structs W (hm0.below h.out).h1 hkp.k1 hs.l1⟩
  have CC2 : Aside0 (∀ W, Aside0 (Below w0.heap.size w0 W) → Calls Tryd.prog 23 #[.slice r.a2 m.chans.length r.c2] W fun e w' => ∃ B d, e = .returned (.slice B m.chans.length d) ∧ Kd.R k46 46 w' W.heap.size (fun _ => True) (.slice B m.chans.length d) m.chans ∧ Below W.heap.size W w') := ⟨fun W h => copySized_any r.a2 r.c2 m.chans W (hm0.below h.out).h2 hkp.k2 hs.l2⟩
  have CC3 : Aside0 (∀ W, Aside0 (Below w0.heap.size w0 W) → Calls Tryd.prog 24 #[.slice r.a3 m.locks.length r.c3] W fun e w' => ∃ B d, e = .returned (.slice B m.locks.length d) ∧ Kd.R Kd.string 9 w' W.heap.size (fun _ => True) (.slice B m.locks.length d) m.locks ∧ Below W.heap.size W w') := ⟨fun W h => copyTexts_any r.a3 r.c3 m.locks W (hm0.below h.out).h3 hkp.k3 hs.l3⟩
  have CC4 : Aside0 (∀ W, Aside0 (Below w0.heap.size w0 W) → Calls Tryd.prog 24 #[.slice r.a4 m.inputs.length r.c4] W fun e w' => ∃ B d, e = .returned (.slice B m.inputs.length d) ∧ Kd.R Kd.string 9 w' W.heap.size (fun _ => True) (.slice B m.inputs.length d) m.inputs ∧ Below W.heap.size W w') := ⟨fun W h => copyTexts_any r.a4 r.c4 m.inputs W (hm0.below h.out).h4 hkp.k4 hs.l4⟩
  have CC5 : Aside0 (∀ W, Aside0 (Below w0.heap.size w0 W) → Calls Tryd.prog 24 #[.slice r.a5 m.sinks.length r.c5] W fun e w' => ∃ B d, e = .returned (.slice B m.sinks.length d) ∧ Kd.R Kd.string 9 w' W.heap.size (fun _ => True) (.slice B m.sinks.length d) m.sinks ∧ Below W.heap.size W w') := ⟨fun W h => copyTexts_any r.a5 r.c5 m.sinks W (hm0.below h.out).h5 hkp.k5 hs.l5⟩
  have CC6 : Aside0 (∀ W, Aside0 (Below w0.heap.size w0 W) → Calls Tryd.prog 24 #[.slice r.a6 m.hatches.length r.c6] W fun e w' => ∃ B d, e = .returned (.slice B m.hatches.length d) ∧ Kd.R Kd.string 9 w' W.heap.size (fun _ => True) (.slice B m.hatches.length d) m.hatches ∧ Below W.heap.size W w') := ⟨fun W h => copyTexts_any r.a6 r.c6 m.hatches W (hm0.below h.out).h6 hkp.k6 hs.l6⟩
  have CC8 : Aside0 (∀ W, Aside0 (Below w0.heap.size w0 W) → Calls Tryd.prog 25 #[.slice r.a8 m.threads.length r.c8] W fun e w' => ∃ B d, e = .returned (.slice B m.threads.length d) ∧ Kd.R (Kd.int .i64) 3 w' W.heap.size (fun _ => True) (.slice B m.threads.length d) m.threads ∧ Below W.heap.size W w') := ⟨fun W h => copyInts_any r.a8 r.c8 m.threads W (hm0.below h.out).h8 hkp.k8 hs.l8⟩
  have KEEP : Aside0 (∀ w', Aside0 (Below w0.heap.size w0 w') → (fun w' => w'.cell? ⟨w.heap.size, 0, none⟩ = some (.slice r.a0 m.globals.length r.c0) ∧ w'.cell? ⟨w.heap.size, 1, none⟩ = some (.slice r.a1 m.structs.length r.c1) ∧ w'.cell? ⟨w.heap.size, 2, none⟩ = some (.slice r.a2 m.chans.length r.c2) ∧ w'.cell? ⟨w.heap.size, 3, none⟩ = some (.slice r.a3 m.locks.length r.c3) ∧ w'.cell? ⟨w.heap.size, 4, none⟩ = some (.slice r.a4 m.inputs.length r.c4) ∧ w'.cell? ⟨w.heap.size, 5, none⟩ = some (.slice r.a5 m.sinks.length r.c5) ∧ w'.cell? ⟨w.heap.size, 6, none⟩ = some (.slice r.a6 m.hatches.length r.c6) ∧ w'.cell? ⟨w.heap.size, 8, none⟩ = some (.slice r.a8 m.threads.length r.c8) ∧ Aside0 (Below w0.heap.size w0 w')) w') := ⟨fun w' h => ⟨(blk_cell (blk_below HNm.out h.out) 0).trans rfl, (blk_cell (blk_below HNm.out h.out) 1).trans rfl, (blk_cell (blk_below HNm.out h.out) 2).trans rfl, (blk_cell (blk_below HNm.out h.out) 3).trans rfl, (blk_cell (blk_below HNm.out h.out) 4).trans rfl, (blk_cell (blk_below HNm.out h.out) 5).trans rfl, (blk_cell (blk_below HNm.out h.out) 6).trans rfl, (blk_cell (blk_below HNm.out h.out) 8).trans rfl, h⟩⟩
  have TH : Aside0 (∀ W W', Aside0 (Below w0.heap.size w0 W) → Below W.heap.size W W' → Aside0 (Below w0.heap.size w0 W')) := ⟨fun W W' h b => ⟨below_then h.out h.out.size b⟩⟩
  have TA : Aside0 (∀ W O, Aside0 (Below w0.heap.size w0 W) → Aside0 (Below w0.heap.size w0 (World.alloc W O))) := ⟨fun W O h => ⟨below_alloc' h.out (Nat.le_refl _) O⟩⟩
  have Z0 : Aside0 (Below w0.heap.size w0 w0.drew) := ⟨(Below.refl w0.heap.size w0).drew⟩
  clear hm hs hz hm0 hkp b0 hfl
  rw [← hsz0]
  have hszl : w.heap.size + 2 ≤ w0.heap.size := by omega
  clear hsz0
  go_enter Tryd.func10, Tryd.ntmps10
  go_wp2_with fail
  clear hw
  refine wp_region_noPanic ?_
  refine wp_region_held_drew (S := (fun w' => w'.cell? ⟨w.heap.size, 0, none⟩ = some (.slice r.a0 m.globals.length r.c0) ∧ w'.cell? ⟨w.heap.size, 1, none⟩ = some (.slice r.a1 m.structs.length r.c1) ∧ w'.cell? ⟨w.heap.size, 2, none⟩ = some (.slice r.a2 m.chans.length r.c2) ∧ w'.cell? ⟨w.heap.size, 3, none⟩ = some (.slice r.a3 m.locks.length r.c3) ∧ w'.cell? ⟨w.heap.size, 4, none⟩ = some (.slice r.a4 m.inputs.length r.c4) ∧ w'.cell? ⟨w.heap.size, 5, none⟩ = some (.slice r.a5 m.sinks.length r.c5) ∧ w'.cell? ⟨w.heap.size, 6, none⟩ = some (.slice r.a6 m.hatches.length r.c6) ∧ w'.cell? ⟨w.heap.size, 8, none⟩ = some (.slice r.a8 m.threads.length r.c8) ∧ Aside0 (Below w0.heap.size w0 w'))) (by kernel_rfl) (KEEP.out _ Z0) (fun hHeld => ?_)
  refine wpAnyH_take (i := 0) (oi := { dst := some 6, op := Op.fieldAddr 27 (Operand.tmp 1) 0, type := 0, pos := "ref.go:394", after := #[], guard := none }) (v := ?_) rfl (by kernel_rfl) (by kernel_rfl) (by kernel_rfl) (fun _ _ _ h => h) (Or.inl ⟨by rfl, ?_⟩) (by assumption) ?_
  rotate_left
  · first | (intro w hSw; (try dsimp only at hSw); go_simp; done) | (intro w hSw; (try dsimp only at hSw); go_simp; with_reducible rfl)
  try simp only [Act.put, List.setIfInBounds_toArray, List.set_cons_zero, List.set_cons_succ]
  refine wpAnyH_take (i := 1) (oi := { dst := some 7, op := Op.load 22 (Operand.tmp 6), type := 22, pos := "ref.go:394", after := #[{ on := 0, ground := Ground.data }], guard := none }) (v := ?_) rfl (by kernel_rfl) (by kernel_rfl) (by kernel_rfl) (fun _ _ _ h => h) (Or.inl ⟨by rfl, ?_⟩) (by assumption) ?_
  rotate_left
  · first | (intro w hSw; (try dsimp only at hSw); go_simp; done) | (intro w hSw; (try dsimp only at hSw); go_simp; with_reducible rfl)
  try simp only [Act.put, List.setIfInBounds_toArray, List.set_cons_zero, List.set_cons_succ]
  refine wpAnyH_take (i := 3) (oi := { dst := some 9, op := Op.fieldAddr 27 (Operand.tmp 1) 1, type := 0, pos := "ref.go:394", after := #[], guard := none }) (v := ?_) rfl (by kernel_rfl) (by kernel_rfl) (by kernel_rfl) (fun _ _ _ h => h) (Or.inl ⟨by rfl, ?_⟩) (by assumption) ?_
  rotate_left
  · first | (intro w hSw; (try dsimp only at hSw); go_simp; done) | (intro w hSw; (try dsimp only at hSw); go_simp; with_reducible rfl)
  try simp only [Act.put, List.setIfInBounds_toArray, List.set_cons_zero, List.set_cons_succ]
  refine wpAnyH_take (i := 4) (oi := { dst := some 10, op := Op.load 22 (Operand.tmp 9), type := 22, pos := "ref.go:394", after := #[{ on := 3, ground := Ground.data }], guard := none }) (v := ?_) rfl (by kernel_rfl) (by kernel_rfl) (by kernel_rfl) (fun _ _ _ h => h) (Or.inl ⟨by rfl, ?_⟩) (by assumption) ?_
  rotate_left
  · first | (intro w hSw; (try dsimp only at hSw); go_simp; done) | (intro w hSw; (try dsimp only at hSw); go_simp; with_reducible rfl)
  try simp only [Act.put, List.setIfInBounds_toArray, List.set_cons_zero, List.set_cons_succ]
  refine wpAnyH_take (i := 6) (oi := { dst := some 12, op := Op.fieldAddr 27 (Operand.tmp 1) 2, type := 0, pos := "ref.go:394", after := #[], guard := none }) (v := ?_) rfl (by kernel_rfl) (by kernel_rfl) (by kernel_rfl) (fun _ _ _ h => h) (Or.inl ⟨by rfl, ?_⟩) (by assumption) ?_
  rotate_left
  · first | (intro w hSw; (try dsimp only at hSw); go_simp; done) | (intro w hSw; (try dsimp only at hSw); go_simp; with_reducible rfl)
  try simp only [Act.put, List.setIfInBounds_toArray, List.set_cons_zero, List.set_cons_succ]
  refine wpAnyH_take (i := 7) (oi := { dst := some 13, op := Op.load 22 (Operand.tmp 12), type := 22, pos := "ref.go:394", after := #[{ on := 6, ground := Ground.data }], guard := none }) (v := ?_) rfl (by kernel_rfl) (by kernel_rfl) (by kernel_rfl) (fun _ _ _ h => h) (Or.inl ⟨by rfl, ?_⟩) (by assumption) ?_
  rotate_left
  · first | (intro w hSw; (try dsimp only at hSw); go_simp; done) | (intro w hSw; (try dsimp only at hSw); go_simp; with_reducible rfl)
  try simp only [Act.put, List.setIfInBounds_toArray, List.set_cons_zero, List.set_cons_succ]
  refine wpAnyH_take (i := 9) (oi := { dst := some 15, op := Op.fieldAddr 27 (Operand.tmp 1) 3, type := 0, pos := "ref.go:394", after := #[], guard := none }) (v := ?_) rfl (by kernel_rfl) (by kernel_rfl) (by kernel_rfl) (fun _ _ _ h => h) (Or.inl ⟨by rfl, ?_⟩) (by assumption) ?_
  rotate_left
  · first | (intro w hSw; (try dsimp only at hSw); go_simp; done) | (intro w hSw; (try dsimp only at hSw); go_simp; with_reducible rfl)
  try simp only [Act.put, List.setIfInBounds_toArray, List.set_cons_zero, List.set_cons_succ]
  refine wpAnyH_take (i := 10) (oi := { dst := some 16, op := Op.load 23 (Operand.tmp 15), type := 23, pos := "ref.go:394", after := #[{ on := 9, ground := Ground.data }], guard := none }) (v := ?_) rfl (by kernel_rfl) (by kernel_rfl) (by kernel_rfl) (fun _ _ _ h => h) (Or.inl ⟨by rfl, ?_⟩) (by assumption) ?_
  rotate_left
  · first | (intro w hSw; (try dsimp only at hSw); go_simp; done) | (intro w hSw; (try dsimp only at hSw); go_simp; with_reducible rfl)
  try simp only [Act.put, List.setIfInBounds_toArray, List.set_cons_zero, List.set_cons_succ]
  refine wpAnyH_take (i := 12) (oi := { dst := some 18, op := Op.fieldAddr 27 (Operand.tmp 1) 4, type := 0, pos := "ref.go:394", after := #[], guard := none }) (v := ?_) rfl (by kernel_rfl) (by kernel_rfl) (by kernel_rfl) (fun _ _ _ h => h) (Or.inl ⟨by rfl, ?_⟩) (by assumption) ?_
  rotate_left
  · first | (intro w hSw; (try dsimp only at hSw); go_simp; done) | (intro w hSw; (try dsimp only at hSw); go_simp; with_reducible rfl)
  try simp only [Act.put, List.setIfInBounds_toArray, List.set_cons_zero, List.set_cons_succ]
  refine wpAnyH_take (i := 13) (oi := { dst := some 19, op := Op.load 23 (Operand.tmp 18), type := 23, pos := "ref.go:394", after := #[{ on := 12, ground := Ground.data }], guard := none }) (v := ?_) rfl (by kernel_rfl) (by kernel_rfl) (by kernel_rfl) (fun _ _ _ h => h) (Or.inl ⟨by rfl, ?_⟩) (by assumption) ?_
  rotate_left
  · first | (intro w hSw; (try dsimp only at hSw); go_simp; done) | (intro w hSw; (try dsimp only at hSw); go_simp; with_reducible rfl)
  try simp only [Act.put, List.setIfInBounds_toArray, List.set_cons_zero, List.set_cons_succ]
  refine wpAnyH_take (i := 15) (oi := { dst := some 21, op := Op.fieldAddr 27 (Operand.tmp 1) 5, type := 0, pos := "ref.go:394", after := #[], guard := none }) (v := ?_) rfl (by kernel_rfl) (by kernel_rfl) (by kernel_rfl) (fun _ _ _ h => h) (Or.inl ⟨by rfl, ?_⟩) (by assumption) ?_
  rotate_left
  · first | (intro w hSw; (try dsimp only at hSw); go_simp; done) | (intro w hSw; (try dsimp only at hSw); go_simp; with_reducible rfl)
  try simp only [Act.put, List.setIfInBounds_toArray, List.set_cons_zero, List.set_cons_succ]
  refine wpAnyH_take (i := 16) (oi := { dst := some 22, op := Op.load 23 (Operand.tmp 21), type := 23, pos := "ref.go:394", after := #[{ on := 15, ground := Ground.data }], guard := none }) (v := ?_) rfl (by kernel_rfl) (by kernel_rfl) (by kernel_rfl) (fun _ _ _ h => h) (Or.inl ⟨by rfl, ?_⟩) (by assumption) ?_
  rotate_left
  · first | (intro w hSw; (try dsimp only at hSw); go_simp; done) | (intro w hSw; (try dsimp only at hSw); go_simp; with_reducible rfl)
  try simp only [Act.put, List.setIfInBounds_toArray, List.set_cons_zero, List.set_cons_succ]
  refine wpAnyH_take (i := 18) (oi := { dst := some 24, op := Op.fieldAddr 27 (Operand.tmp 1) 6, type := 0, pos := "ref.go:394", after := #[], guard := none }) (v := ?_) rfl (by kernel_rfl) (by kernel_rfl) (by kernel_rfl) (fun _ _ _ h => h) (Or.inl ⟨by rfl, ?_⟩) (by assumption) ?_
  rotate_left
  · first | (intro w hSw; (try dsimp only at hSw); go_simp; done) | (intro w hSw; (try dsimp only at hSw); go_simp; with_reducible rfl)
  try simp only [Act.put, List.setIfInBounds_toArray, List.set_cons_zero, List.set_cons_succ]
  refine wpAnyH_take (i := 19) (oi := { dst := some 25, op := Op.load 23 (Operand.tmp 24), type := 23, pos := "ref.go:394", after := #[{ on := 18, ground := Ground.data }], guard := none }) (v := ?_) rfl (by kernel_rfl) (by kernel_rfl) (by kernel_rfl) (fun _ _ _ h => h) (Or.inl ⟨by rfl, ?_⟩) (by assumption) ?_
  rotate_left
  · first | (intro w hSw; (try dsimp only at hSw); go_simp; done) | (intro w hSw; (try dsimp only at hSw); go_simp; with_reducible rfl)
  try simp only [Act.put, List.setIfInBounds_toArray, List.set_cons_zero, List.set_cons_succ]
  refine wpAnyH_take (i := 21) (oi := { dst := some 27, op := Op.fieldAddr 27 (Operand.tmp 1) 8, type := 0, pos := "ref.go:394", after := #[], guard := none }) (v := ?_) rfl (by kernel_rfl) (by kernel_rfl) (by kernel_rfl) (fun _ _ _ h => h) (Or.inl ⟨by rfl, ?_⟩) (by assumption) ?_
  rotate_left
  · first | (intro w hSw; (try dsimp only at hSw); go_simp; done) | (intro w hSw; (try dsimp only at hSw); go_simp; with_reducible rfl)
  try simp only [Act.put, List.setIfInBounds_toArray, List.set_cons_zero, List.set_cons_succ]
  refine wpAnyH_take (i := 22) (oi := { dst := some 28, op := Op.load 25 (Operand.tmp 27), type := 25, pos := "ref.go:394", after := #[{ on := 21, ground := Ground.data }], guard := none }) (v := ?_) rfl (by kernel_rfl) (by kernel_rfl) (by kernel_rfl) (fun _ _ _ h => h) (Or.inl ⟨by rfl, ?_⟩) (by assumption) ?_
  rotate_left
  · first | (intro w hSw; (try dsimp only at hSw); go_simp; done) | (intro w hSw; (try dsimp only at hSw); go_simp; with_reducible rfl)
  try simp only [Act.put, List.setIfInBounds_toArray, List.set_cons_zero, List.set_cons_succ]
  refine wpAnyH_ready (rs := [2, 25]) (by kernel_rfl) (by simp) ?_
  refine AllReadyH.cons (o := { dst := some 8, op := Op.call { callee := Callee.value (Operand.func 23), args := #[Operand.tmp 7], argTypes := #[22] }, type := 22, pos := "ref.go:394", after := #[{ on := 1, ground := Ground.data }], guard := none }) rfl (fun K hK => ?wa1) ?wb1
  case' wa1 =>
    go_simp
    refine (CC0.out _ Z0).mono ?_
    rintro e y1 ⟨B0, D0, rfl, hv, b⟩
    have Z1 := TH.out _ _ Z0 b
    have Q0 := Aside0.mk (Kd.R_lower hv Z0.out.size)
    clear b hv
    go_wp2_with fail
    refine hK.out _ _ ?_ (fun hHeld => ?_)
    · exact KEEP.out _ Z1
    clear hK K
    try simp only [Act.put, List.setIfInBounds_toArray, List.set_cons_zero, List.set_cons_succ]
    refine wpAnyH_ready (rs := [5, 25]) (by kernel_rfl) (by simp) ?_
    refine AllReadyH.cons (o := { dst := some 11, op := Op.call { callee := Callee.value (Operand.func 23), args := #[Operand.tmp 10], argTypes := #[22] }, type := 22, pos := "ref.go:394", after := #[{ on := 4, ground := Ground.data }, { on := 2, ground := Ground.chain }], guard := none }) rfl (fun K hK => ?wa2) ?wb2
    case' wa2 =>
      go_simp
      refine (CC1.out _ Z1).mono ?_
      rintro e y2 ⟨B1, D1, rfl, hv, b⟩
      have Z2 := TH.out _ _ Z1 b
      have Q0 := Aside0.mk (Kd.R_below Q0.out b)
      have Q1 := Aside0.mk (Kd.R_lower hv Z1.out.size)
      clear b hv
      go_wp2_with fail
      refine hK.out _ _ ?_ (fun hHeld => ?_)
      · exact KEEP.out _ Z2
      clear hK K
      try simp only [Act.put, List.setIfInBounds_toArray, List.set_cons_zero, List.set_cons_succ]
      refine wpAnyH_ready (rs := [8, 25]) (by kernel_rfl) (by simp) ?_
      refine AllReadyH.cons (o := { dst := some 14, op := Op.call { callee := Callee.value (Operand.func 23), args := #[Operand.tmp 13], argTypes := #[22] }, type := 22, pos := "ref.go:394", after := #[{ on := 7, ground := Ground.data }, { on := 5, ground := Ground.chain }], guard := none }) rfl (fun K hK => ?wa3) ?wb3
      case' wa3 =>
        go_simp
        refine (CC2.out _ Z2).mono ?_
        rintro e y3 ⟨B2, D2, rfl, hv, b⟩
        have Z3 := TH.out _ _ Z2 b
        have Q0 := Aside0.mk (Kd.R_below Q0.out b)
        have Q1 := Aside0.mk (Kd.R_below Q1.out b)
        have Q2 := Aside0.mk (Kd.R_lower hv Z2.out.size)
        clear b hv
        go_wp2_with fail
        refine hK.out _ _ ?_ (fun hHeld => ?_)
        · exact KEEP.out _ Z3
        clear hK K
        try simp only [Act.put, List.setIfInBounds_toArray, List.set_cons_zero, List.set_cons_succ]
        refine wpAnyH_ready (rs := [11, 25]) (by kernel_rfl) (by simp) ?_
        refine AllReadyH.cons (o := { dst := some 17, op := Op.call { callee := Callee.value (Operand.func 24), args := #[Operand.tmp 16], argTypes := #[23] }, type := 23, pos := "ref.go:394", after := #[{ on := 10, ground := Ground.data }, { on := 8, ground := Ground.chain }], guard := none }) rfl (fun K hK => ?wa4) ?wb4
        case' wa4 =>
          go_simp
          refine (CC3.out _ Z3).mono ?_
          rintro e y4 ⟨B3, D3, rfl, hv, b⟩
          have Z4 := TH.out _ _ Z3 b
          have Q0 := Aside0.mk (Kd.R_below Q0.out b)
          have Q1 := Aside0.mk (Kd.R_below Q1.out b)
          have Q2 := Aside0.mk (Kd.R_below Q2.out b)
          have Q3 := Aside0.mk (Kd.R_lower hv Z3.out.size)
          obtain ⟨b4, hb4⟩ : ∃ b4, b4 = y4.heap.size := ⟨_, rfl⟩
          have HB4 : Aside0 (b4 ≤ y4.heap.size) := ⟨Nat.le_of_eq hb4⟩
          have Q3 := Aside0.mk (Kd.R_mono (Kd.R_bound Q3.out) (fun k hk => (⟨hk.1, by rw [hb4]; exact hk.2.2.1⟩ : True ∧ k < b4)))
          clear hb4
          clear b hv
          go_wp2_with fail
          refine hK.out _ _ ?_ (fun hHeld => ?_)
          · exact KEEP.out _ Z4
          clear hK K
          try simp only [Act.put, List.setIfInBounds_toArray, List.set_cons_zero, List.set_cons_succ]
          refine wpAnyH_ready (rs := [14, 25]) (by kernel_rfl) (by simp) ?_
          refine AllReadyH.cons (o := { dst := some 20, op := Op.call { callee := Callee.value (Operand.func 24), args := #[Operand.tmp 19], argTypes := #[23] }, type := 23, pos := "ref.go:394", after := #[{ on := 13, ground := Ground.data }, { on := 11, ground := Ground.chain }], guard := none }) rfl (fun K hK => ?wa5) ?wb5
          case' wa5 =>
            go_simp
            refine (CC4.out _ Z4).mono ?_
            rintro e y5 ⟨B4, D4, rfl, hv, b⟩
            have Z5 := TH.out _ _ Z4 b
            have Q0 := Aside0.mk (Kd.R_below Q0.out b)
            have Q1 := Aside0.mk (Kd.R_below Q1.out b)
            have Q2 := Aside0.mk (Kd.R_below Q2.out b)
            have Q3 := Aside0.mk (Kd.R_below Q3.out b)
            have Q4 := Aside0.mk (Kd.R_mono (Kd.R_bound (Kd.R_lower hv (Nat.le_refl _))) (fun k hk => (⟨hk.1, Nat.le_trans HB4.out hk.2.1⟩ : True ∧ b4 ≤ k)))
            have Q4 := Aside0.mk (Kd.R_lower Q4.out Z4.out.size)
            have HB4 : Aside0 (b4 ≤ y5.heap.size) := ⟨Nat.le_trans HB4.out b.size⟩
            clear b hv
            go_wp2_with fail
            refine hK.out _ _ ?_ (fun hHeld => ?_)
            · exact KEEP.out _ Z5
            clear hK K
            try simp only [Act.put, List.setIfInBounds_toArray, List.set_cons_zero, List.set_cons_succ]
            refine wpAnyH_ready (rs := [17, 25]) (by kernel_rfl) (by simp) ?_
            refine AllReadyH.cons (o := { dst := some 23, op := Op.call { callee := Callee.value (Operand.func 24), args := #[Operand.tmp 22], argTypes := #[23] }, type := 23, pos := "ref.go:394", after := #[{ on := 16, ground := Ground.data }, { on := 14, ground := Ground.chain }], guard := none }) rfl (fun K hK => ?wa6) ?wb6
            case' wa6 =>
              go_simp
              refine (CC5.out _ Z5).mono ?_
              rintro e y6 ⟨B5, D5, rfl, hv, b⟩
              have Z6 := TH.out _ _ Z5 b
              have Q0 := Aside0.mk (Kd.R_below Q0.out b)
              have Q1 := Aside0.mk (Kd.R_below Q1.out b)
              have Q2 := Aside0.mk (Kd.R_below Q2.out b)
              have Q3 := Aside0.mk (Kd.R_below Q3.out b)
              have Q4 := Aside0.mk (Kd.R_below Q4.out b)
              have Q5 := Aside0.mk (Kd.R_mono (Kd.R_bound (Kd.R_lower hv (Nat.le_refl _))) (fun k hk => (⟨hk.1, Nat.le_trans HB4.out hk.2.1⟩ : True ∧ b4 ≤ k)))
              have Q5 := Aside0.mk (Kd.R_lower Q5.out Z5.out.size)
              have HB4 : Aside0 (b4 ≤ y6.heap.size) := ⟨Nat.le_trans HB4.out b.size⟩
              clear b hv
              go_wp2_with fail
              refine hK.out _ _ ?_ (fun hHeld => ?_)
              · exact KEEP.out _ Z6
              clear hK K
              try simp only [Act.put, List.setIfInBounds_toArray, List.set_cons_zero, List.set_cons_succ]
              refine wpAnyH_ready (rs := [20, 25]) (by kernel_rfl) (by simp) ?_
              refine AllReadyH.cons (o := { dst := some 26, op := Op.call { callee := Callee.value (Operand.func 24), args := #[Operand.tmp 25], argTypes := #[23] }, type := 23, pos := "ref.go:394", after := #[{ on := 19, ground := Ground.data }, { on := 17, ground := Ground.chain }], guard := none }) rfl (fun K hK => ?wa7) ?wb7
              case' wa7 =>
                go_simp
                refine (CC6.out _ Z6).mono ?_
                rintro e y7 ⟨B6, D6, rfl, hv, b⟩
                have Z7 := TH.out _ _ Z6 b
                have Q0 := Aside0.mk (Kd.R_below Q0.out b)
                have Q1 := Aside0.mk (Kd.R_below Q1.out b)
                have Q2 := Aside0.mk (Kd.R_below Q2.out b)
                have Q3 := Aside0.mk (Kd.R_below Q3.out b)
                have Q4 := Aside0.mk (Kd.R_below Q4.out b)
                have Q5 := Aside0.mk (Kd.R_below Q5.out b)
                have Q6 := Aside0.mk (Kd.R_mono (Kd.R_bound (Kd.R_lower hv (Nat.le_refl _))) (fun k hk => (⟨hk.1, Nat.le_trans HB4.out hk.2.1⟩ : True ∧ b4 ≤ k)))
                have Q6 := Aside0.mk (Kd.R_lower Q6.out Z6.out.size)
                have HB4 : Aside0 (b4 ≤ y7.heap.size) := ⟨Nat.le_trans HB4.out b.size⟩
                clear b hv
                go_wp2_with fail
                refine hK.out _ _ ?_ (fun hHeld => ?_)
                · exact KEEP.out _ Z7
                clear hK K
                try simp only [Act.put, List.setIfInBounds_toArray, List.set_cons_zero, List.set_cons_succ]
                refine wpAnyH_ready (rs := [23, 25]) (by kernel_rfl) (by simp) ?_
                refine AllReadyH.cons (o := { dst := some 29, op := Op.call { callee := Callee.value (Operand.func 25), args := #[Operand.tmp 28], argTypes := #[25] }, type := 25, pos := "ref.go:394", after := #[{ on := 22, ground := Ground.data }, { on := 20, ground := Ground.chain }], guard := none }) rfl (fun K hK => ?wa8) ?wb8
                case' wa8 =>
                  go_simp
                  refine (CC8.out _ Z7).mono ?_
                  rintro e y8 ⟨B8, D8, rfl, hv, b⟩
                  have Z8 := TH.out _ _ Z7 b
                  have Q0 := Aside0.mk (Kd.R_below Q0.out b)
                  have Q1 := Aside0.mk (Kd.R_below Q1.out b)
                  have Q2 := Aside0.mk (Kd.R_below Q2.out b)
                  have Q3 := Aside0.mk (Kd.R_below Q3.out b)
                  have Q4 := Aside0.mk (Kd.R_below Q4.out b)
                  have Q5 := Aside0.mk (Kd.R_below Q5.out b)
                  have Q6 := Aside0.mk (Kd.R_below Q6.out b)
                  have Q8 := Aside0.mk (Kd.R_lower hv Z7.out.size)
                  have HB4 : Aside0 (b4 ≤ y8.heap.size) := ⟨Nat.le_trans HB4.out b.size⟩
                  clear b hv
                  go_wp2_with fail
                  refine hK.out _ _ ?_ (fun hHeld => ?_)
                  · exact KEEP.out _ Z8
                  clear hK K
                  try simp only [Act.put, List.setIfInBounds_toArray, List.set_cons_zero, List.set_cons_succ]
                  refine wpAnyH_take (i := 24) (oi := { dst := some 30, op := Op.build 27 #[(0, Operand.tmp 8), (1, Operand.tmp 11), (2, Operand.tmp 14), (3, Operand.tmp 17), (4, Operand.tmp 20), (5, Operand.tmp 23), (6, Operand.tmp 26), (8, Operand.tmp 29)], type := 27, pos := "ref.go:394", after := #[{ on := 2, ground := Ground.data }, { on := 5, ground := Ground.data }, { on := 8, ground := Ground.data }, { on := 11, ground := Ground.data }, { on := 14, ground := Ground.data }, { on := 17, ground := Ground.data }, { on := 20, ground := Ground.data }, { on := 23, ground := Ground.data }], guard := none }) (v := ?_) rfl (by kernel_rfl) (by kernel_rfl) (by kernel_rfl) (fun _ _ _ h => h) (Or.inl ⟨by rfl, ?_⟩) (by assumption) ?_
                  rotate_left
                  · first | (intro w hSw; (try dsimp only at hSw); go_simp; done) | (intro w hSw; (try dsimp only at hSw); go_simp; with_reducible rfl)
                  try simp only [Act.put, List.setIfInBounds_toArray, List.set_cons_zero, List.set_cons_succ]
                  refine wpAnyH_ready (rs := [25]) (by kernel_rfl) (by simp) ?_
                  refine AllReadyH.cons (o := { dst := some 3, op := Op.alloc 27, type := 0, pos := "ref.go:394", after := #[], guard := none }) rfl (fun K hK => ?_) AllReadyH.nil
                  go_simp
                  have Z9 := TA.out _ (.cells #[.slice none 0 0, .slice none 0 0, .slice none 0 0, .slice none 0 0, .slice none 0 0, .slice none 0 0, .slice none 0 0, .slice none 0 0, .slice none 0 0] 27) Z8
                  have HG : Aside0 ((y8.alloc (.cells #[.slice none 0 0, .slice none 0 0, .slice none 0 0, .slice none 0 0, .slice none 0 0, .slice none 0 0, .slice none 0 0, .slice none 0 0, .slice none 0 0] 27)).heap[y8.heap.size]? = some (.cells #[.slice none 0 0, .slice none 0 0, .slice none 0 0, .slice none 0 0, .slice none 0 0, .slice none 0 0, .slice none 0 0, .slice none 0 0, .slice none 0 0] 27 (0, 0))) := ⟨blk_new y8 _⟩
                  have hnb : w0.heap.size ≤ y8.heap.size := Z8.out.size
                  have Q0 := Aside0.mk (Kd.R_alloc Q0.out (.cells #[.slice none 0 0, .slice none 0 0, .slice none 0 0, .slice none 0 0, .slice none 0 0, .slice none 0 0, .slice none 0 0, .slice none 0 0, .slice none 0 0] 27))
                  have Q1 := Aside0.mk (Kd.R_alloc Q1.out (.cells #[.slice none 0 0, .slice none 0 0, .slice none 0 0, .slice none 0 0, .slice none 0 0, .slice none 0 0, .slice none 0 0, .slice none 0 0, .slice none 0 0] 27))
                  have Q2 := Aside0.mk (Kd.R_alloc Q2.out (.cells #[.slice none 0 0, .slice none 0 0, .slice none 0 0, .slice none 0 0, .slice none 0 0, .slice none 0 0, .slice none 0 0, .slice none 0 0, .slice none 0 0] 27))
                  have Q3 := Aside0.mk (Kd.R_alloc Q3.out (.cells #[.slice none 0 0, .slice none 0 0, .slice none 0 0, .slice none 0 0, .slice none 0 0, .slice none 0 0, .slice none 0 0, .slice none 0 0, .slice none 0 0] 27))
                  have Q4 := Aside0.mk (Kd.R_alloc Q4.out (.cells #[.slice none 0 0, .slice none 0 0, .slice none 0 0, .slice none 0 0, .slice none 0 0, .slice none 0 0, .slice none 0 0, .slice none 0 0, .slice none 0 0] 27))
                  have Q5 := Aside0.mk (Kd.R_alloc Q5.out (.cells #[.slice none 0 0, .slice none 0 0, .slice none 0 0, .slice none 0 0, .slice none 0 0, .slice none 0 0, .slice none 0 0, .slice none 0 0, .slice none 0 0] 27))
                  have Q6 := Aside0.mk (Kd.R_alloc Q6.out (.cells #[.slice none 0 0, .slice none 0 0, .slice none 0 0, .slice none 0 0, .slice none 0 0, .slice none 0 0, .slice none 0 0, .slice none 0 0, .slice none 0 0] 27))
                  have Q8 := Aside0.mk (Kd.R_alloc Q8.out (.cells #[.slice none 0 0, .slice none 0 0, .slice none 0 0, .slice none 0 0, .slice none 0 0, .slice none 0 0, .slice none 0 0, .slice none 0 0, .slice none 0 0] 27))
                  have HB4 : Aside0 (b4 ≤ (y8.alloc (.cells #[.slice none 0 0, .slice none 0 0, .slice none 0 0, .slice none 0 0, .slice none 0 0, .slice none 0 0, .slice none 0 0, .slice none 0 0, .slice none 0 0] 27)).heap.size) := ⟨Nat.le_trans HB4.out (by rw [World.size_alloc]; omega)⟩
                  refine hK.out _ _ ?_ (fun hHeld => ?_)
                  · exact KEEP.out _ Z9
                  clear hK K
                  try simp only [Act.put, List.setIfInBounds_toArray, List.set_cons_zero, List.set_cons_succ]
                  refine wpAnyH_ready (rs := [26]) (by kernel_rfl) (by simp) ?_
                  refine AllReadyH.cons (o := { dst := none, op := Op.store 27 (Operand.tmp 3) (Operand.tmp 30), type := 0, pos := "ref.go:394", after := #[{ on := 25, ground := Ground.data }, { on := 24, ground := Ground.data }, { on := 23, ground := Ground.chain }, { on := 0, ground := Ground.phase }, { on := 1, ground := Ground.phase }, { on := 2, ground := Ground.phase }, { on := 3, ground := Ground.phase }, { on := 4, ground := Ground.phase }, { on := 5, ground := Ground.phase }, { on := 6, ground := Ground.phase }, { on := 7, ground := Ground.phase }, { on := 8, ground := Ground.phase }, { on := 9, ground := Ground.phase }, { on := 10, ground := Ground.phase }, { on := 11, ground := Ground.phase }, { on := 12, ground := Ground.phase }, { on := 13, ground := Ground.phase }, { on := 14, ground := Ground.phase }, { on := 15, ground := Ground.phase }, { on := 16, ground := Ground.phase }, { on := 17, ground := Ground.phase }, { on := 18, ground := Ground.phase }, { on := 19, ground := Ground.phase }, { on := 20, ground := Ground.phase }, { on := 21, ground := Ground.phase }, { on := 22, ground := Ground.phase }, { on := 23, ground := Ground.phase }, { on := 24, ground := Ground.phase }, { on := 25, ground := Ground.phase }], guard := none }) rfl (fun K hK => ?_) AllReadyH.nil
                  rw [if_pos (by rfl)]
                  refine wp_store_row 27 _ _ rfl (y8.heap.size) (mdX ⟨B0, D0, B1, D1, B2, D2, B3, D3, B4, D4, B5, D5, B6, D6, none, 0, B8, D8⟩ m (.slice none 0 0)).toArray rfl rfl 27 _ HG.out (by kernel_rfl) (by rfl) (by simp [mdX]; exact ⟨rfl, rfl, rfl, rfl, rfl, rfl, rfl, rfl, rfl⟩) ?_
                  have Q0 := Aside0.mk (Kd.R_bound (Kd.R_move (Kd.R_types Q0.out HG.out (by decide)) (fun k hk => setRow_other _ _ k (mdX ⟨B0, D0, B1, D1, B2, D2, B3, D3, B4, D4, B5, D5, B6, D6, none, 0, B8, D8⟩ m (.slice none 0 0)).toArray hk.2)))
                  have Q1 := Aside0.mk (Kd.R_bound (Kd.R_move (Kd.R_types Q1.out HG.out (by decide)) (fun k hk => setRow_other _ _ k (mdX ⟨B0, D0, B1, D1, B2, D2, B3, D3, B4, D4, B5, D5, B6, D6, none, 0, B8, D8⟩ m (.slice none 0 0)).toArray hk.2)))
                  have Q2 := Aside0.mk (Kd.R_bound (Kd.R_move (Kd.R_types Q2.out HG.out (by decide)) (fun k hk => setRow_other _ _ k (mdX ⟨B0, D0, B1, D1, B2, D2, B3, D3, B4, D4, B5, D5, B6, D6, none, 0, B8, D8⟩ m (.slice none 0 0)).toArray hk.2)))
                  have Q3 := Aside0.mk (Kd.R_bound (Kd.R_move (Kd.R_types Q3.out HG.out (by decide)) (fun k hk => setRow_other _ _ k (mdX ⟨B0, D0, B1, D1, B2, D2, B3, D3, B4, D4, B5, D5, B6, D6, none, 0, B8, D8⟩ m (.slice none 0 0)).toArray hk.2)))
                  have Q4 := Aside0.mk (Kd.R_bound (Kd.R_move (Kd.R_types Q4.out HG.out (by decide)) (fun k hk => setRow_other _ _ k (mdX ⟨B0, D0, B1, D1, B2, D2, B3, D3, B4, D4, B5, D5, B6, D6, none, 0, B8, D8⟩ m (.slice none 0 0)).toArray hk.2)))
                  have Q5 := Aside0.mk (Kd.R_bound (Kd.R_move (Kd.R_types Q5.out HG.out (by decide)) (fun k hk => setRow_other _ _ k (mdX ⟨B0, D0, B1, D1, B2, D2, B3, D3, B4, D4, B5, D5, B6, D6, none, 0, B8, D8⟩ m (.slice none 0 0)).toArray hk.2)))
                  have Q6 := Aside0.mk (Kd.R_bound (Kd.R_move (Kd.R_types Q6.out HG.out (by decide)) (fun k hk => setRow_other _ _ k (mdX ⟨B0, D0, B1, D1, B2, D2, B3, D3, B4, D4, B5, D5, B6, D6, none, 0, B8, D8⟩ m (.slice none 0 0)).toArray hk.2)))
                  have Q8 := Aside0.mk (Kd.R_bound (Kd.R_move (Kd.R_types Q8.out HG.out (by decide)) (fun k hk => setRow_other _ _ k (mdX ⟨B0, D0, B1, D1, B2, D2, B3, D3, B4, D4, B5, D5, B6, D6, none, 0, B8, D8⟩ m (.slice none 0 0)).toArray hk.2)))
                  have ZZ := Aside0.mk (below_setRow Z9.out hnb (mdX ⟨B0, D0, B1, D1, B2, D2, B3, D3, B4, D4, B5, D5, B6, D6, none, 0, B8, D8⟩ m (.slice none 0 0)).toArray)
                  have HV := Aside0.mk (setRow_heap _ _ _ (mdX ⟨B0, D0, B1, D1, B2, D2, B3, D3, B4, D4, B5, D5, B6, D6, none, 0, B8, D8⟩ m (.slice none 0 0)).toArray _ _ HG.out)
                  have HB4 : Aside0 (b4 ≤ (World.setRow (y8.alloc (.cells #[.slice none 0 0, .slice none 0 0, .slice none 0 0, .slice none 0 0, .slice none 0 0, .slice none 0 0, .slice none 0 0, .slice none 0 0, .slice none 0 0] 27)) (y8.heap.size) (mdX ⟨B0, D0, B1, D1, B2, D2, B3, D3, B4, D4, B5, D5, B6, D6, none, 0, B8, D8⟩ m (.slice none 0 0)).toArray).heap.size) := ⟨by rw [setRow_size]; exact HB4.out⟩
                  refine hK.out _ _ ?_ (fun hHeld => ?_)
                  · exact KEEP.out _ ZZ
                  clear hK K
                  try simp only [Act.put, List.setIfInBounds_toArray, List.set_cons_zero, List.set_cons_succ]
                  generalize World.setRow _ _ _ = w7 at *
                  refine wpAnyH_done (by kernel_rfl) ?_ _
                  refine NoPanic.normal ?_
                  clear hHeld
                  have hnbw : w0.heap.size ≤ y8.heap.size := hnb
                  have hnblt : y8.heap.size < w7.heap.size := blk_lt HV.out
                  have HMN : Aside0 (MdN w0.heap.size b4 w7.heap.size (y8.heap.size) w7 ⟨B0, D0, B1, D1, B2, D2, B3, D3, B4, D4, B5, D5, B6, D6, none, 0, B8, D8⟩ m) := ⟨⟨Kd.R_mono Q0.out (fun k hk => (⟨hk.1.2, hk.2.2.1⟩ : k ≠ y8.heap.size ∧ k < w7.heap.size)), Kd.R_mono Q1.out (fun k hk => (⟨hk.1.2, hk.2.2.1⟩ : k ≠ y8.heap.size ∧ k < w7.heap.size)), Kd.R_mono Q2.out (fun k hk => (⟨hk.1.2, hk.2.2.1⟩ : k ≠ y8.heap.size ∧ k < w7.heap.size)), Kd.R_mono Q3.out (fun k hk => (⟨⟨hk.1.2, hk.2.2.1⟩, hk.1.1.2⟩ : (k ≠ y8.heap.size ∧ k < w7.heap.size) ∧ k < b4)), Kd.R_mono Q4.out (fun k hk => (⟨⟨hk.1.2, hk.2.2.1⟩, hk.1.1.2⟩ : (k ≠ y8.heap.size ∧ k < w7.heap.size) ∧ b4 ≤ k)), Kd.R_mono Q5.out (fun k hk => (⟨⟨hk.1.2, hk.2.2.1⟩, hk.1.1.2⟩ : (k ≠ y8.heap.size ∧ k < w7.heap.size) ∧ b4 ≤ k)), Kd.R_mono Q6.out (fun k hk => (⟨⟨hk.1.2, hk.2.2.1⟩, hk.1.1.2⟩ : (k ≠ y8.heap.size ∧ k < w7.heap.size) ∧ b4 ≤ k)), Kd.R_mono Q8.out (fun k hk => (⟨hk.1.2, hk.2.2.1⟩ : k ≠ y8.heap.size ∧ k < w7.heap.size))⟩⟩
                  clear Q0 Q1 Q2 Q3 Q4 Q5 Q6 Q8 hnb HG
                  obtain ⟨rr, hrr⟩ : ∃ rr : MdR, (⟨B0, D0, B1, D1, B2, D2, B3, D3, B4, D4, B5, D5, B6, D6, none, 0, B8, D8⟩ : MdR) = rr := ⟨_, rfl⟩
                  have HVV : Aside0 (w7.heap[y8.heap.size]? = some (.cells (mdX rr m (.slice none 0 0)).toArray 27 (0, 0))) := ⟨by rw [← hrr]; exact HV.out⟩
                  rw [hrr] at HMN
                  clear hrr HV
                  generalize (y8.heap.size) = nb at HVV HMN hnbw hnblt ⊢
                case' wb8 =>
                  refine AllReadyH.cons (o := { dst := some 3, op := Op.alloc 27, type := 0, pos := "ref.go:394", after := #[], guard := none }) rfl (fun K hK => ?_) AllReadyH.nil
                  go_simp
                  have Z8 := TA.out _ (.cells #[.slice none 0 0, .slice none 0 0, .slice none 0 0, .slice none 0 0, .slice none 0 0, .slice none 0 0, .slice none 0 0, .slice none 0 0, .slice none 0 0] 27) Z7
                  have HG : Aside0 ((y7.alloc (.cells #[.slice none 0 0, .slice none 0 0, .slice none 0 0, .slice none 0 0, .slice none 0 0, .slice none 0 0, .slice none 0 0, .slice none 0 0, .slice none 0 0] 27)).heap[y7.heap.size]? = some (.cells #[.slice none 0 0, .slice none 0 0, .slice none 0 0, .slice none 0 0, .slice none 0 0, .slice none 0 0, .slice none 0 0, .slice none 0 0, .slice none 0 0] 27 (0, 0))) := ⟨blk_new y7 _⟩
                  have hnb : w0.heap.size ≤ y7.heap.size := Z7.out.size
                  have Q0 := Aside0.mk (Kd.R_alloc Q0.out (.cells #[.slice none 0 0, .slice none 0 0, .slice none 0 0, .slice none 0 0, .slice none 0 0, .slice none 0 0, .slice none 0 0, .slice none 0 0, .slice none 0 0] 27))
                  have Q1 := Aside0.mk (Kd.R_alloc Q1.out (.cells #[.slice none 0 0, .slice none 0 0, .slice none 0 0, .slice none 0 0, .slice none 0 0, .slice none 0 0, .slice none 0 0, .slice none 0 0, .slice none 0 0] 27))
                  have Q2 := Aside0.mk (Kd.R_alloc Q2.out (.cells #[.slice none 0 0, .slice none 0 0, .slice none 0 0, .slice none 0 0, .slice none 0 0, .slice none 0 0, .slice none 0 0, .slice none 0 0, .slice none 0 0] 27))
                  have Q3 := Aside0.mk (Kd.R_alloc Q3.out (.cells #[.slice none 0 0, .slice none 0 0, .slice none 0 0, .slice none 0 0, .slice none 0 0, .slice none 0 0, .slice none 0 0, .slice none 0 0, .slice none 0 0] 27))
                  have Q4 := Aside0.mk (Kd.R_alloc Q4.out (.cells #[.slice none 0 0, .slice none 0 0, .slice none 0 0, .slice none 0 0, .slice none 0 0, .slice none 0 0, .slice none 0 0, .slice none 0 0, .slice none 0 0] 27))
                  have Q5 := Aside0.mk (Kd.R_alloc Q5.out (.cells #[.slice none 0 0, .slice none 0 0, .slice none 0 0, .slice none 0 0, .slice none 0 0, .slice none 0 0, .slice none 0 0, .slice none 0 0, .slice none 0 0] 27))
                  have Q6 := Aside0.mk (Kd.R_alloc Q6.out (.cells #[.slice none 0 0, .slice none 0 0, .slice none 0 0, .slice none 0 0, .slice none 0 0, .slice none 0 0, .slice none 0 0, .slice none 0 0, .slice none 0 0] 27))
                  have HB4 : Aside0 (b4 ≤ (y7.alloc (.cells #[.slice none 0 0, .slice none 0 0, .slice none 0 0, .slice none 0 0, .slice none 0 0, .slice none 0 0, .slice none 0 0, .slice none 0 0, .slice none 0 0] 27)).heap.size) := ⟨Nat.le_trans HB4.out (by rw [World.size_alloc]; omega)⟩
                  refine hK.out _ _ ?_ (fun hHeld => ?_)
                  · exact KEEP.out _ Z8
                  clear hK K
                  try simp only [Act.put, List.setIfInBounds_toArray, List.set_cons_zero, List.set_cons_succ]
                  refine wpAnyH_ready (rs := [23]) (by kernel_rfl) (by simp) ?_
                  refine AllReadyH.cons (o := { dst := some 29, op := Op.call { callee := Callee.value (Operand.func 25), args := #[Operand.tmp 28], argTypes := #[25] }, type := 25, pos := "ref.go:394", after := #[{ on := 22, ground := Ground.data }, { on := 20, ground := Ground.chain }], guard := none }) rfl (fun K hK => ?_) AllReadyH.nil
                  go_simp
                  refine (CC8.out _ Z8).mono ?_
                  rintro e y9 ⟨B8, D8, rfl, hv, b⟩
                  have Z9 := TH.out _ _ Z8 b
                  have Q0 := Aside0.mk (Kd.R_below Q0.out b)
                  have Q1 := Aside0.mk (Kd.R_below Q1.out b)
                  have Q2 := Aside0.mk (Kd.R_below Q2.out b)
                  have Q3 := Aside0.mk (Kd.R_below Q3.out b)
                  have Q4 := Aside0.mk (Kd.R_below Q4.out b)
                  have Q5 := Aside0.mk (Kd.R_below Q5.out b)
                  have Q6 := Aside0.mk (Kd.R_below Q6.out b)
                  have Q8 := Aside0.mk (Kd.R_lower hv Z8.out.size)
                  have HB4 : Aside0 (b4 ≤ y9.heap.size) := ⟨Nat.le_trans HB4.out b.size⟩
                  have HG := Aside0.mk (blk_below HG.out b)
                  clear b hv
                  go_wp2_with fail
                  refine hK.out _ _ ?_ (fun hHeld => ?_)
                  · exact KEEP.out _ Z9
                  clear hK K
                  try simp only [Act.put, List.setIfInBounds_toArray, List.set_cons_zero, List.set_cons_succ]
                  refine wpAnyH_take (i := 24) (oi := { dst := some 30, op := Op.build 27 #[(0, Operand.tmp 8), (1, Operand.tmp 11), (2, Operand.tmp 14), (3, Operand.tmp 17), (4, Operand.tmp 20), (5, Operand.tmp 23), (6, Operand.tmp 26), (8, Operand.tmp 29)], type := 27, pos := "ref.go:394", after := #[{ on := 2, ground := Ground.data }, { on := 5, ground := Ground.data }, { on := 8, ground := Ground.data }, { on := 11, ground := Ground.data }, { on := 14, ground := Ground.data }, { on := 17, ground := Ground.data }, { on := 20, ground := Ground.data }, { on := 23, ground := Ground.data }], guard := none }) (v := ?_) rfl (by kernel_rfl) (by kernel_rfl) (by kernel_rfl) (fun _ _ _ h => h) (Or.inl ⟨by rfl, ?_⟩) (by assumption) ?_
                  rotate_left
                  · first | (intro w hSw; (try dsimp only at hSw); go_simp; done) | (intro w hSw; (try dsimp only at hSw); go_simp; with_reducible rfl)
                  try simp only [Act.put, List.setIfInBounds_toArray, List.set_cons_zero, List.set_cons_succ]
                  refine wpAnyH_ready (rs := [26]) (by kernel_rfl) (by simp) ?_
                  refine AllReadyH.cons (o := { dst := none, op := Op.store 27 (Operand.tmp 3) (Operand.tmp 30), type := 0, pos := "ref.go:394", after := #[{ on := 25, ground := Ground.data }, { on := 24, ground := Ground.data }, { on := 23, ground := Ground.chain }, { on := 0, ground := Ground.phase }, { on := 1, ground := Ground.phase }, { on := 2, ground := Ground.phase }, { on := 3, ground := Ground.phase }, { on := 4, ground := Ground.phase }, { on := 5, ground := Ground.phase }, { on := 6, ground := Ground.phase }, { on := 7, ground := Ground.phase }, { on := 8, ground := Ground.phase }, { on := 9, ground := Ground.phase }, { on := 10, ground := Ground.phase }, { on := 11, ground := Ground.phase }, { on := 12, ground := Ground.phase }, { on := 13, ground := Ground.phase }, { on := 14, ground := Ground.phase }, { on := 15, ground := Ground.phase }, { on := 16, ground := Ground.phase }, { on := 17, ground := Ground.phase }, { on := 18, ground := Ground.phase }, { on := 19, ground := Ground.phase }, { on := 20, ground := Ground.phase }, { on := 21, ground := Ground.phase }, { on := 22, ground := Ground.phase }, { on := 23, ground := Ground.phase }, { on := 24, ground := Ground.phase }, { on := 25, ground := Ground.phase }], guard := none }) rfl (fun K hK => ?_) AllReadyH.nil
                  rw [if_pos (by rfl)]
                  refine wp_store_row 27 _ _ rfl (y7.heap.size) (mdX ⟨B0, D0, B1, D1, B2, D2, B3, D3, B4, D4, B5, D5, B6, D6, none, 0, B8, D8⟩ m (.slice none 0 0)).toArray rfl rfl 27 _ HG.out (by kernel_rfl) (by rfl) (by simp [mdX]; exact ⟨rfl, rfl, rfl, rfl, rfl, rfl, rfl, rfl, rfl⟩) ?_
                  have Q0 := Aside0.mk (Kd.R_bound (Kd.R_move (Kd.R_types Q0.out HG.out (by decide)) (fun k hk => setRow_other _ _ k (mdX ⟨B0, D0, B1, D1, B2, D2, B3, D3, B4, D4, B5, D5, B6, D6, none, 0, B8, D8⟩ m (.slice none 0 0)).toArray hk.2)))
                  have Q1 := Aside0.mk (Kd.R_bound (Kd.R_move (Kd.R_types Q1.out HG.out (by decide)) (fun k hk => setRow_other _ _ k (mdX ⟨B0, D0, B1, D1, B2, D2, B3, D3, B4, D4, B5, D5, B6, D6, none, 0, B8, D8⟩ m (.slice none 0 0)).toArray hk.2)))
                  have Q2 := Aside0.mk (Kd.R_bound (Kd.R_move (Kd.R_types Q2.out HG.out (by decide)) (fun k hk => setRow_other _ _ k (mdX ⟨B0, D0, B1, D1, B2, D2, B3, D3, B4, D4, B5, D5, B6, D6, none, 0, B8, D8⟩ m (.slice none 0 0)).toArray hk.2)))
                  have Q3 := Aside0.mk (Kd.R_bound (Kd.R_move (Kd.R_types Q3.out HG.out (by decide)) (fun k hk => setRow_other _ _ k (mdX ⟨B0, D0, B1, D1, B2, D2, B3, D3, B4, D4, B5, D5, B6, D6, none, 0, B8, D8⟩ m (.slice none 0 0)).toArray hk.2)))
                  have Q4 := Aside0.mk (Kd.R_bound (Kd.R_move (Kd.R_types Q4.out HG.out (by decide)) (fun k hk => setRow_other _ _ k (mdX ⟨B0, D0, B1, D1, B2, D2, B3, D3, B4, D4, B5, D5, B6, D6, none, 0, B8, D8⟩ m (.slice none 0 0)).toArray hk.2)))
                  have Q5 := Aside0.mk (Kd.R_bound (Kd.R_move (Kd.R_types Q5.out HG.out (by decide)) (fun k hk => setRow_other _ _ k (mdX ⟨B0, D0, B1, D1, B2, D2, B3, D3, B4, D4, B5, D5, B6, D6, none, 0, B8, D8⟩ m (.slice none 0 0)).toArray hk.2)))
                  have Q6 := Aside0.mk (Kd.R_bound (Kd.R_move (Kd.R_types Q6.out HG.out (by decide)) (fun k hk => setRow_other _ _ k (mdX ⟨B0, D0, B1, D1, B2, D2, B3, D3, B4, D4, B5, D5, B6, D6, none, 0, B8, D8⟩ m (.slice none 0 0)).toArray hk.2)))
                  have Q8 := Aside0.mk (Kd.R_bound (Kd.R_move (Kd.R_types Q8.out HG.out (by decide)) (fun k hk => setRow_other _ _ k (mdX ⟨B0, D0, B1, D1, B2, D2, B3, D3, B4, D4, B5, D5, B6, D6, none, 0, B8, D8⟩ m (.slice none 0 0)).toArray hk.2)))
                  have ZZ := Aside0.mk (below_setRow Z9.out hnb (mdX ⟨B0, D0, B1, D1, B2, D2, B3, D3, B4, D4, B5, D5, B6, D6, none, 0, B8, D8⟩ m (.slice none 0 0)).toArray)
                  have HV := Aside0.mk (setRow_heap _ _ _ (mdX ⟨B0, D0, B1, D1, B2, D2, B3, D3, B4, D4, B5, D5, B6, D6, none, 0, B8, D8⟩ m (.slice none 0 0)).toArray _ _ HG.out)
                  have HB4 : Aside0 (b4 ≤ (World.setRow y9 (y7.heap.size) (mdX ⟨B0, D0, B1, D1, B2, D2, B3, D3, B4, D4, B5, D5, B6, D6, none, 0, B8, D8⟩ m (.slice none 0 0)).toArray).heap.size) := ⟨by rw [setRow_size]; exact HB4.out⟩
                  refine hK.out _ _ ?_ (fun hHeld => ?_)
                  · exact KEEP.out _ ZZ
                  clear hK K
                  try simp only [Act.put, List.setIfInBounds_toArray, List.set_cons_zero, List.set_cons_succ]
                  generalize World.setRow _ _ _ = w7 at *
                  refine wpAnyH_done (by kernel_rfl) ?_ _
                  refine NoPanic.normal ?_
                  clear hHeld
                  have hnbw : w0.heap.size ≤ y7.heap.size := hnb
                  have hnblt : y7.heap.size < w7.heap.size := blk_lt HV.out
                  have HMN : Aside0 (MdN w0.heap.size b4 w7.heap.size (y7.heap.size) w7 ⟨B0, D0, B1, D1, B2, D2, B3, D3, B4, D4, B5, D5, B6, D6, none, 0, B8, D8⟩ m) := ⟨⟨Kd.R_mono Q0.out (fun k hk => (⟨hk.1.2, hk.2.2.1⟩ : k ≠ y7.heap.size ∧ k < w7.heap.size)), Kd.R_mono Q1.out (fun k hk => (⟨hk.1.2, hk.2.2.1⟩ : k ≠ y7.heap.size ∧ k < w7.heap.size)), Kd.R_mono Q2.out (fun k hk => (⟨hk.1.2, hk.2.2.1⟩ : k ≠ y7.heap.size ∧ k < w7.heap.size)), Kd.R_mono Q3.out (fun k hk => (⟨⟨hk.1.2, hk.2.2.1⟩, hk.1.1.2⟩ : (k ≠ y7.heap.size ∧ k < w7.heap.size) ∧ k < b4)), Kd.R_mono Q4.out (fun k hk => (⟨⟨hk.1.2, hk.2.2.1⟩, hk.1.1.2⟩ : (k ≠ y7.heap.size ∧ k < w7.heap.size) ∧ b4 ≤ k)), Kd.R_mono Q5.out (fun k hk => (⟨⟨hk.1.2, hk.2.2.1⟩, hk.1.1.2⟩ : (k ≠ y7.heap.size ∧ k < w7.heap.size) ∧ b4 ≤ k)), Kd.R_mono Q6.out (fun k hk => (⟨⟨hk.1.2, hk.2.2.1⟩, hk.1.1.2⟩ : (k ≠ y7.heap.size ∧ k < w7.heap.size) ∧ b4 ≤ k)), Kd.R_mono Q8.out (fun k hk => (⟨hk.1.2, hk.2.2.1⟩ : k ≠ y7.heap.size ∧ k < w7.heap.size))⟩⟩
                  clear Q0 Q1 Q2 Q3 Q4 Q5 Q6 Q8 hnb HG
                  obtain ⟨rr, hrr⟩ : ∃ rr : MdR, (⟨B0, D0, B1, D1, B2, D2, B3, D3, B4, D4, B5, D5, B6, D6, none, 0, B8, D8⟩ : MdR) = rr := ⟨_, rfl⟩
                  have HVV : Aside0 (w7.heap[y7.heap.size]? = some (.cells (mdX rr m (.slice none 0 0)).toArray 27 (0, 0))) := ⟨by rw [← hrr]; exact HV.out⟩
                  rw [hrr] at HMN
                  clear hrr HV
                  generalize (y7.heap.size) = nb at HVV HMN hnbw hnblt ⊢
              case' wb7 =>
                refine AllReadyH.cons (o := { dst := some 3, op := Op.alloc 27, type := 0, pos := "ref.go:394", after := #[], guard := none }) rfl (fun K hK => ?_) AllReadyH.nil
                go_simp
                have Z7 := TA.out _ (.cells #[.slice none 0 0, .slice none 0 0, .slice none 0 0, .slice none 0 0, .slice none 0 0, .slice none 0 0, .slice none 0 0, .slice none 0 0, .slice none 0 0] 27) Z6
                have HG : Aside0 ((y6.alloc (.cells #[.slice none 0 0, .slice none 0 0, .slice none 0 0, .slice none 0 0, .slice none 0 0, .slice none 0 0, .slice none 0 0, .slice none 0 0, .slice none 0 0] 27)).heap[y6.heap.size]? = some (.cells #[.slice none 0 0, .slice none 0 0, .slice none 0 0, .slice none 0 0, .slice none 0 0, .slice none 0 0, .slice none 0 0, .slice none 0 0, .slice none 0 0] 27 (0, 0))) := ⟨blk_new y6 _⟩
                have hnb : w0.heap.size ≤ y6.heap.size := Z6.out.size
                have Q0 := Aside0.mk (Kd.R_alloc Q0.out (.cells #[.slice none 0 0, .slice none 0 0, .slice none 0 0, .slice none 0 0, .slice none 0 0, .slice none 0 0, .slice none 0 0, .slice none 0 0, .slice none 0 0] 27))
                have Q1 := Aside0.mk (Kd.R_alloc Q1.out (.cells #[.slice none 0 0, .slice none 0 0, .slice none 0 0, .slice none 0 0, .slice none 0 0, .slice none 0 0, .slice none 0 0, .slice none 0 0, .slice none 0 0] 27))
                have Q2 := Aside0.mk (Kd.R_alloc Q2.out (.cells #[.slice none 0 0, .slice none 0 0, .slice none 0 0, .slice none 0 0, .slice none 0 0, .slice none 0 0, .slice none 0 0, .slice none 0 0, .slice none 0 0] 27))
                have Q3 := Aside0.mk (Kd.R_alloc Q3.out (.cells #[.slice none 0 0, .slice none 0 0, .slice none 0 0, .slice none 0 0, .slice none 0 0, .slice none 0 0, .slice none 0 0, .slice none 0 0, .slice none 0 0] 27))
                have Q4 := Aside0.mk (Kd.R_alloc Q4.out (.cells #[.slice none 0 0, .slice none 0 0, .slice none 0 0, .slice none 0 0, .slice none 0 0, .slice none 0 0, .slice none 0 0, .slice none 0 0, .slice none 0 0] 27))
                have Q5 := Aside0.mk (Kd.R_alloc Q5.out (.cells #[.slice none 0 0, .slice none 0 0, .slice none 0 0, .slice none 0 0, .slice none 0 0, .slice none 0 0, .slice none 0 0, .slice none 0 0, .slice none 0 0] 27))
                have HB4 : Aside0 (b4 ≤ (y6.alloc (.cells #[.slice none 0 0, .slice none 0 0, .slice none 0 0, .slice none 0 0, .slice none 0 0, .slice none 0 0, .slice none 0 0, .slice none 0 0, .slice none 0 0] 27)).heap.size) := ⟨Nat.le_trans HB4.out (by rw [World.size_alloc]; omega)⟩
                refine hK.out _ _ ?_ (fun hHeld => ?_)
                · exact KEEP.out _ Z7
                clear hK K
                try simp only [Act.put, List.setIfInBounds_toArray, List.set_cons_zero, List.set_cons_succ]
                refine wpAnyH_ready (rs := [20]) (by kernel_rfl) (by simp) ?_
                refine AllReadyH.cons (o := { dst := some 26, op := Op.call { callee := Callee.value (Operand.func 24), args := #[Operand.tmp 25], argTypes := #[23] }, type := 23, pos := "ref.go:394", after := #[{ on := 19, ground := Ground.data }, { on := 17, ground := Ground.chain }], guard := none }) rfl (fun K hK => ?_) AllReadyH.nil
                go_simp
                refine (CC6.out _ Z7).mono ?_
                rintro e y8 ⟨B6, D6, rfl, hv, b⟩
                have Z8 := TH.out _ _ Z7 b
                have Q0 := Aside0.mk (Kd.R_below Q0.out b)
                have Q1 := Aside0.mk (Kd.R_below Q1.out b)
                have Q2 := Aside0.mk (Kd.R_below Q2.out b)
                have Q3 := Aside0.mk (Kd.R_below Q3.out b)
                have Q4 := Aside0.mk (Kd.R_below Q4.out b)
                have Q5 := Aside0.mk (Kd.R_below Q5.out b)
                have Q6 := Aside0.mk (Kd.R_mono (Kd.R_bound (Kd.R_lower hv (Nat.le_refl _))) (fun k hk => (⟨hk.1, Nat.le_trans HB4.out hk.2.1⟩ : True ∧ b4 ≤ k)))
                have Q6 := Aside0.mk (Kd.R_lower Q6.out Z7.out.size)
                have HB4 : Aside0 (b4 ≤ y8.heap.size) := ⟨Nat.le_trans HB4.out b.size⟩
                have HG := Aside0.mk (blk_below HG.out b)
                clear b hv
                go_wp2_with fail
                refine hK.out _ _ ?_ (fun hHeld => ?_)
                · exact KEEP.out _ Z8
                clear hK K
                try simp only [Act.put, List.setIfInBounds_toArray, List.set_cons_zero, List.set_cons_succ]
                refine wpAnyH_ready (rs := [23]) (by kernel_rfl) (by simp) ?_
                refine AllReadyH.cons (o := { dst := some 29, op := Op.call { callee := Callee.value (Operand.func 25), args := #[Operand.tmp 28], argTypes := #[25] }, type := 25, pos := "ref.go:394", after := #[{ on := 22, ground := Ground.data }, { on := 20, ground := Ground.chain }], guard := none }) rfl (fun K hK => ?_) AllReadyH.nil
                go_simp
                refine (CC8.out _ Z8).mono ?_
                rintro e y9 ⟨B8, D8, rfl, hv, b⟩
                have Z9 := TH.out _ _ Z8 b
                have Q0 := Aside0.mk (Kd.R_below Q0.out b)
                have Q1 := Aside0.mk (Kd.R_below Q1.out b)
                have Q2 := Aside0.mk (Kd.R_below Q2.out b)
                have Q3 := Aside0.mk (Kd.R_below Q3.out b)
                have Q4 := Aside0.mk (Kd.R_below Q4.out b)
                have Q5 := Aside0.mk (Kd.R_below Q5.out b)
                have Q6 := Aside0.mk (Kd.R_below Q6.out b)
                have Q8 := Aside0.mk (Kd.R_lower hv Z8.out.size)
                have HB4 : Aside0 (b4 ≤ y9.heap.size) := ⟨Nat.le_trans HB4.out b.size⟩
                have HG := Aside0.mk (blk_below HG.out b)
                clear b hv
                go_wp2_with fail
                refine hK.out _ _ ?_ (fun hHeld => ?_)
                · exact KEEP.out _ Z9
                clear hK K
                try simp only [Act.put, List.setIfInBounds_toArray, List.set_cons_zero, List.set_cons_succ]
                refine wpAnyH_take (i := 24) (oi := { dst := some 30, op := Op.build 27 #[(0, Operand.tmp 8), (1, Operand.tmp 11), (2, Operand.tmp 14), (3, Operand.tmp 17), (4, Operand.tmp 20), (5, Operand.tmp 23), (6, Operand.tmp 26), (8, Operand.tmp 29)], type := 27, pos := "ref.go:394", after := #[{ on := 2, ground := Ground.data }, { on := 5, ground := Ground.data }, { on := 8, ground := Ground.data }, { on := 11, ground := Ground.data }, { on := 14, ground := Ground.data }, { on := 17, ground := Ground.data }, { on := 20, ground := Ground.data }, { on := 23, ground := Ground.data }], guard := none }) (v := ?_) rfl (by kernel_rfl) (by kernel_rfl) (by kernel_rfl) (fun _ _ _ h => h) (Or.inl ⟨by rfl, ?_⟩) (by assumption) ?_
                rotate_left
                · first | (intro w hSw; (try dsimp only at hSw); go_simp; done) | (intro w hSw; (try dsimp only at hSw); go_simp; with_reducible rfl)
                try simp only [Act.put, List.setIfInBounds_toArray, List.set_cons_zero, List.set_cons_succ]
                refine wpAnyH_ready (rs := [26]) (by kernel_rfl) (by simp) ?_
                refine AllReadyH.cons (o := { dst := none, op := Op.store 27 (Operand.tmp 3) (Operand.tmp 30), type := 0, pos := "ref.go:394", after := #[{ on := 25, ground := Ground.data }, { on := 24, ground := Ground.data }, { on := 23, ground := Ground.chain }, { on := 0, ground := Ground.phase }, { on := 1, ground := Ground.phase }, { on := 2, ground := Ground.phase }, { on := 3, ground := Ground.phase }, { on := 4, ground := Ground.phase }, { on := 5, ground := Ground.phase }, { on := 6, ground := Ground.phase }, { on := 7, ground := Ground.phase }, { on := 8, ground := Ground.phase }, { on := 9, ground := Ground.phase }, { on := 10, ground := Ground.phase }, { on := 11, ground := Ground.phase }, { on := 12, ground := Ground.phase }, { on := 13, ground := Ground.phase }, { on := 14, ground := Ground.phase }, { on := 15, ground := Ground.phase }, { on := 16, ground := Ground.phase }, { on := 17, ground := Ground.phase }, { on := 18, ground := Ground.phase }, { on := 19, ground := Ground.phase }, { on := 20, ground := Ground.phase }, { on := 21, ground := Ground.phase }, { on := 22, ground := Ground.phase }, { on := 23, ground := Ground.phase }, { on := 24, ground := Ground.phase }, { on := 25, ground := Ground.phase }], guard := none }) rfl (fun K hK => ?_) AllReadyH.nil
                rw [if_pos (by rfl)]
                refine wp_store_row 27 _ _ rfl (y6.heap.size) (mdX ⟨B0, D0, B1, D1, B2, D2, B3, D3, B4, D4, B5, D5, B6, D6, none, 0, B8, D8⟩ m (.slice none 0 0)).toArray rfl rfl 27 _ HG.out (by kernel_rfl) (by rfl) (by simp [mdX]; exact ⟨rfl, rfl, rfl, rfl, rfl, rfl, rfl, rfl, rfl⟩) ?_
                have Q0 := Aside0.mk (Kd.R_bound (Kd.R_move (Kd.R_types Q0.out HG.out (by decide)) (fun k hk => setRow_other _ _ k (mdX ⟨B0, D0, B1, D1, B2, D2, B3, D3, B4, D4, B5, D5, B6, D6, none, 0, B8, D8⟩ m (.slice none 0 0)).toArray hk.2)))
                have Q1 := Aside0.mk (Kd.R_bound (Kd.R_move (Kd.R_types Q1.out HG.out (by decide)) (fun k hk => setRow_other _ _ k (mdX ⟨B0, D0, B1, D1, B2, D2, B3, D3, B4, D4, B5, D5, B6, D6, none, 0, B8, D8⟩ m (.slice none 0 0)).toArray hk.2)))
                have Q2 := Aside0.mk (Kd.R_bound (Kd.R_move (Kd.R_types Q2.out HG.out (by decide)) (fun k hk => setRow_other _ _ k (mdX ⟨B0, D0, B1, D1, B2, D2, B3, D3, B4, D4, B5, D5, B6, D6, none, 0, B8, D8⟩ m (.slice none 0 0)).toArray hk.2)))
                have Q3 := Aside0.mk (Kd.R_bound (Kd.R_move (Kd.R_types Q3.out HG.out (by decide)) (fun k hk => setRow_other _ _ k (mdX ⟨B0, D0, B1, D1, B2, D2, B3, D3, B4, D4, B5, D5, B6, D6, none, 0, B8, D8⟩ m (.slice none 0 0)).toArray hk.2)))
                have Q4 := Aside0.mk (Kd.R_bound (Kd.R_move (Kd.R_types Q4.out HG.out (by decide)) (fun k hk => setRow_other _ _ k (mdX ⟨B0, D0, B1, D1, B2, D2, B3, D3, B4, D4, B5, D5, B6, D6, none, 0, B8, D8⟩ m (.slice none 0 0)).toArray hk.2)))
                have Q5 := Aside0.mk (Kd.R_bound (Kd.R_move (Kd.R_types Q5.out HG.out (by decide)) (fun k hk => setRow_other _ _ k (mdX ⟨B0, D0, B1, D1, B2, D2, B3, D3, B4, D4, B5, D5, B6, D6, none, 0, B8, D8⟩ m (.slice none 0 0)).toArray hk.2)))
                have Q6 := Aside0.mk (Kd.R_bound (Kd.R_move (Kd.R_types Q6.out HG.out (by decide)) (fun k hk => setRow_other _ _ k (mdX ⟨B0, D0, B1, D1, B2, D2, B3, D3, B4, D4, B5, D5, B6, D6, none, 0, B8, D8⟩ m (.slice none 0 0)).toArray hk.2)))
                have Q8 := Aside0.mk (Kd.R_bound (Kd.R_move (Kd.R_types Q8.out HG.out (by decide)) (fun k hk => setRow_other _ _ k (mdX ⟨B0, D0, B1, D1, B2, D2, B3, D3, B4, D4, B5, D5, B6, D6, none, 0, B8, D8⟩ m (.slice none 0 0)).toArray hk.2)))
                have ZZ := Aside0.mk (below_setRow Z9.out hnb (mdX ⟨B0, D0, B1, D1, B2, D2, B3, D3, B4, D4, B5, D5, B6, D6, none, 0, B8, D8⟩ m (.slice none 0 0)).toArray)
                have HV := Aside0.mk (setRow_heap _ _ _ (mdX ⟨B0, D0, B1, D1, B2, D2, B3, D3, B4, D4, B5, D5, B6, D6, none, 0, B8, D8⟩ m (.slice none 0 0)).toArray _ _ HG.out)
                have HB4 : Aside0 (b4 ≤ (World.setRow y9 (y6.heap.size) (mdX ⟨B0, D0, B1, D1, B2, D2, B3, D3, B4, D4, B5, D5, B6, D6, none, 0, B8, D8⟩ m (.slice none 0 0)).toArray).heap.size) := ⟨by rw [setRow_size]; exact HB4.out⟩
                refine hK.out _ _ ?_ (fun hHeld => ?_)
                · exact KEEP.out _ ZZ
                clear hK K
                try simp only [Act.put, List.setIfInBounds_toArray, List.set_cons_zero, List.set_cons_succ]
                generalize World.setRow _ _ _ = w7 at *
                refine wpAnyH_done (by kernel_rfl) ?_ _
                refine NoPanic.normal ?_
                clear hHeld
                have hnbw : w0.heap.size ≤ y6.heap.size := hnb
                have hnblt : y6.heap.size < w7.heap.size := blk_lt HV.out
                have HMN : Aside0 (MdN w0.heap.size b4 w7.heap.size (y6.heap.size) w7 ⟨B0, D0, B1, D1, B2, D2, B3, D3, B4, D4, B5, D5, B6, D6, none, 0, B8, D8⟩ m) := ⟨⟨Kd.R_mono Q0.out (fun k hk => (⟨hk.1.2, hk.2.2.1⟩ : k ≠ y6.heap.size ∧ k < w7.heap.size)), Kd.R_mono Q1.out (fun k hk => (⟨hk.1.2, hk.2.2.1⟩ : k ≠ y6.heap.size ∧ k < w7.heap.size)), Kd.R_mono Q2.out (fun k hk => (⟨hk.1.2, hk.2.2.1⟩ : k ≠ y6.heap.size ∧ k < w7.heap.size)), Kd.R_mono Q3.out (fun k hk => (⟨⟨hk.1.2, hk.2.2.1⟩, hk.1.1.2⟩ : (k ≠ y6.heap.size ∧ k < w7.heap.size) ∧ k < b4)), Kd.R_mono Q4.out (fun k hk => (⟨⟨hk.1.2, hk.2.2.1⟩, hk.1.1.2⟩ : (k ≠ y6.heap.size ∧ k < w7.heap.size) ∧ b4 ≤ k)), Kd.R_mono Q5.out (fun k hk => (⟨⟨hk.1.2, hk.2.2.1⟩, hk.1.1.2⟩ : (k ≠ y6.heap.size ∧ k < w7.heap.size) ∧ b4 ≤ k)), Kd.R_mono Q6.out (fun k hk => (⟨⟨hk.1.2, hk.2.2.1⟩, hk.1.1.2⟩ : (k ≠ y6.heap.size ∧ k < w7.heap.size) ∧ b4 ≤ k)), Kd.R_mono Q8.out (fun k hk => (⟨hk.1.2, hk.2.2.1⟩ : k ≠ y6.heap.size ∧ k < w7.heap.size))⟩⟩
                clear Q0 Q1 Q2 Q3 Q4 Q5 Q6 Q8 hnb HG
                obtain ⟨rr, hrr⟩ : ∃ rr : MdR, (⟨B0, D0, B1, D1, B2, D2, B3, D3, B4, D4, B5, D5, B6, D6, none, 0, B8, D8⟩ : MdR) = rr := ⟨_, rfl⟩
                have HVV : Aside0 (w7.heap[y6.heap.size]? = some (.cells (mdX rr m (.slice none 0 0)).toArray 27 (0, 0))) := ⟨by rw [← hrr]; exact HV.out⟩
                rw [hrr] at HMN
                clear hrr HV
                generalize (y6.heap.size) = nb at HVV HMN hnbw hnblt ⊢
            case' wb6 =>
              refine AllReadyH.cons (o := { dst := some 3, op := Op.alloc 27, type := 0, pos := "ref.go:394", after := #[], guard := none }) rfl (fun K hK => ?_) AllReadyH.nil
              go_simp
              have Z6 := TA.out _ (.cells #[.slice none 0 0, .slice none 0 0, .slice none 0 0, .slice none 0 0, .slice none 0 0, .slice none 0 0, .slice none 0 0, .slice none 0 0, .slice none 0 0] 27) Z5
              have HG : Aside0 ((y5.alloc (.cells #[.slice none 0 0, .slice none 0 0, .slice none 0 0, .slice none 0 0, .slice none 0 0, .slice none 0 0, .slice none 0 0, .slice none 0 0, .slice none 0 0] 27)).heap[y5.heap.size]? = some (.cells #[.slice none 0 0, .slice none 0 0, .slice none 0 0, .slice none 0 0, .slice none 0 0, .slice none 0 0, .slice none 0 0, .slice none 0 0, .slice none 0 0] 27 (0, 0))) := ⟨blk_new y5 _⟩
              have hnb : w0.heap.size ≤ y5.heap.size := Z5.out.size
              have Q0 := Aside0.mk (Kd.R_alloc Q0.out (.cells #[.slice none 0 0, .slice none 0 0, .slice none 0 0, .slice none 0 0, .slice none 0 0, .slice none 0 0, .slice none 0 0, .slice none 0 0, .slice none 0 0] 27))
              have Q1 := Aside0.mk (Kd.R_alloc Q1.out (.cells #[.slice none 0 0, .slice none 0 0, .slice none 0 0, .slice none 0 0, .slice none 0 0, .slice none 0 0, .slice none 0 0, .slice none 0 0, .slice none 0 0] 27))
              have Q2 := Aside0.mk (Kd.R_alloc Q2.out (.cells #[.slice none 0 0, .slice none 0 0, .slice none 0 0, .slice none 0 0, .slice none 0 0, .slice none 0 0, .slice none 0 0, .slice none 0 0, .slice none 0 0] 27))
              have Q3 := Aside0.mk (Kd.R_alloc Q3.out (.cells #[.slice none 0 0, .slice none 0 0, .slice none 0 0, .slice none 0 0, .slice none 0 0, .slice none 0 0, .slice none 0 0, .slice none 0 0, .slice none 0 0] 27))
              have Q4 := Aside0.mk (Kd.R_alloc Q4.out (.cells #[.slice none 0 0, .slice none 0 0, .slice none 0 0, .slice none 0 0, .slice none 0 0, .slice none 0 0, .slice none 0 0, .slice none 0 0, .slice none 0 0] 27))
              have HB4 : Aside0 (b4 ≤ (y5.alloc (.cells #[.slice none 0 0, .slice none 0 0, .slice none 0 0, .slice none 0 0, .slice none 0 0, .slice none 0 0, .slice none 0 0, .slice none 0 0, .slice none 0 0] 27)).heap.size) := ⟨Nat.le_trans HB4.out (by rw [World.size_alloc]; omega)⟩
              refine hK.out _ _ ?_ (fun hHeld => ?_)
              · exact KEEP.out _ Z6
              clear hK K
              try simp only [Act.put, List.setIfInBounds_toArray, List.set_cons_zero, List.set_cons_succ]
              refine wpAnyH_ready (rs := [17]) (by kernel_rfl) (by simp) ?_
              refine AllReadyH.cons (o := { dst := some 23, op := Op.call { callee := Callee.value (Operand.func 24), args := #[Operand.tmp 22], argTypes := #[23] }, type := 23, pos := "ref.go:394", after := #[{ on := 16, ground := Ground.data }, { on := 14, ground := Ground.chain }], guard := none }) rfl (fun K hK => ?_) AllReadyH.nil
              go_simp
              refine (CC5.out _ Z6).mono ?_
              rintro e y7 ⟨B5, D5, rfl, hv, b⟩
              have Z7 := TH.out _ _ Z6 b
              have Q0 := Aside0.mk (Kd.R_below Q0.out b)
              have Q1 := Aside0.mk (Kd.R_below Q1.out b)
              have Q2 := Aside0.mk (Kd.R_below Q2.out b)
              have Q3 := Aside0.mk (Kd.R_below Q3.out b)
              have Q4 := Aside0.mk (Kd.R_below Q4.out b)
              have Q5 := Aside0.mk (Kd.R_mono (Kd.R_bound (Kd.R_lower hv (Nat.le_refl _))) (fun k hk => (⟨hk.1, Nat.le_trans HB4.out hk.2.1⟩ : True ∧ b4 ≤ k)))
              have Q5 := Aside0.mk (Kd.R_lower Q5.out Z6.out.size)
              have HB4 : Aside0 (b4 ≤ y7.heap.size) := ⟨Nat.le_trans HB4.out b.size⟩
              have HG := Aside0.mk (blk_below HG.out b)
              clear b hv
              go_wp2_with fail
              refine hK.out _ _ ?_ (fun hHeld => ?_)
              · exact KEEP.out _ Z7
              clear hK K
              try simp only [Act.put, List.setIfInBounds_toArray, List.set_cons_zero, List.set_cons_succ]
              refine wpAnyH_ready (rs := [20]) (by kernel_rfl) (by simp) ?_
              refine AllReadyH.cons (o := { dst := some 26, op := Op.call { callee := Callee.value (Operand.func 24), args := #[Operand.tmp 25], argTypes := #[23] }, type := 23, pos := "ref.go:394", after := #[{ on := 19, ground := Ground.data }, { on := 17, ground := Ground.chain }], guard := none }) rfl (fun K hK => ?_) AllReadyH.nil
              go_simp
              refine (CC6.out _ Z7).mono ?_
              rintro e y8 ⟨B6, D6, rfl, hv, b⟩
              have Z8 := TH.out _ _ Z7 b
              have Q0 := Aside0.mk (Kd.R_below Q0.out b)
              have Q1 := Aside0.mk (Kd.R_below Q1.out b)
              have Q2 := Aside0.mk (Kd.R_below Q2.out b)
              have Q3 := Aside0.mk (Kd.R_below Q3.out b)
              have Q4 := Aside0.mk (Kd.R_below Q4.out b)
              have Q5 := Aside0.mk (Kd.R_below Q5.out b)
              have Q6 := Aside0.mk (Kd.R_mono (Kd.R_bound (Kd.R_lower hv (Nat.le_refl _))) (fun k hk => (⟨hk.1, Nat.le_trans HB4.out hk.2.1⟩ : True ∧ b4 ≤ k)))
              have Q6 := Aside0.mk (Kd.R_lower Q6.out Z7.out.size)
              have HB4 : Aside0 (b4 ≤ y8.heap.size) := ⟨Nat.le_trans HB4.out b.size⟩
              have HG := Aside0.mk (blk_below HG.out b)
              clear b hv
              go_wp2_with fail
              refine hK.out _ _ ?_ (fun hHeld => ?_)
              · exact KEEP.out _ Z8
              clear hK K
              try simp only [Act.put, List.setIfInBounds_toArray, List.set_cons_zero, List.set_cons_succ]
              refine wpAnyH_ready (rs := [23]) (by kernel_rfl) (by simp) ?_
              refine AllReadyH.cons (o := { dst := some 29, op := Op.call { callee := Callee.value (Operand.func 25), args := #[Operand.tmp 28], argTypes := #[25] }, type := 25, pos := "ref.go:394", after := #[{ on := 22, ground := Ground.data }, { on := 20, ground := Ground.chain }], guard := none }) rfl (fun K hK => ?_) AllReadyH.nil
              go_simp
              refine (CC8.out _ Z8).mono ?_
              rintro e y9 ⟨B8, D8, rfl, hv, b⟩
              have Z9 := TH.out _ _ Z8 b
              have Q0 := Aside0.mk (Kd.R_below Q0.out b)
              have Q1 := Aside0.mk (Kd.R_below Q1.out b)
              have Q2 := Aside0.mk (Kd.R_below Q2.out b)
              have Q3 := Aside0.mk (Kd.R_below Q3.out b)
              have Q4 := Aside0.mk (Kd.R_below Q4.out b)
              have Q5 := Aside0.mk (Kd.R_below Q5.out b)
              have Q6 := Aside0.mk (Kd.R_below Q6.out b)
              have Q8 := Aside0.mk (Kd.R_lower hv Z8.out.size)
              have HB4 : Aside0 (b4 ≤ y9.heap.size) := ⟨Nat.le_trans HB4.out b.size⟩
              have HG := Aside0.mk (blk_below HG.out b)
              clear b hv
              go_wp2_with fail
              refine hK.out _ _ ?_ (fun hHeld => ?_)
              · exact KEEP.out _ Z9
              clear hK K
              try simp only [Act.put, List.setIfInBounds_toArray, List.set_cons_zero, List.set_cons_succ]
              refine wpAnyH_take (i := 24) (oi := { dst := some 30, op := Op.build 27 #[(0, Operand.tmp 8), (1, Operand.tmp 11), (2, Operand.tmp 14), (3, Operand.tmp 17), (4, Operand.tmp 20), (5, Operand.tmp 23), (6, Operand.tmp 26), (8, Operand.tmp 29)], type := 27, pos := "ref.go:394", after := #[{ on := 2, ground := Ground.data }, { on := 5, ground := Ground.data }, { on := 8, ground := Ground.data }, { on := 11, ground := Ground.data }, { on := 14, ground := Ground.data }, { on := 17, ground := Ground.data }, { on := 20, ground := Ground.data }, { on := 23, ground := Ground.data }], guard := none }) (v := ?_) rfl (by kernel_rfl) (by kernel_rfl) (by kernel_rfl) (fun _ _ _ h => h) (Or.inl ⟨by rfl, ?_⟩) (by assumption) ?_
              rotate_left
              · first | (intro w hSw; (try dsimp only at hSw); go_simp; done) | (intro w hSw; (try dsimp only at hSw); go_simp; with_reducible rfl)
              try simp only [Act.put, List.setIfInBounds_toArray, List.set_cons_zero, List.set_cons_succ]
              refine wpAnyH_ready (rs := [26]) (by kernel_rfl) (by simp) ?_
              refine AllReadyH.cons (o := { dst := none, op := Op.store 27 (Operand.tmp 3) (Operand.tmp 30), type := 0, pos := "ref.go:394", after := #[{ on := 25, ground := Ground.data }, { on := 24, ground := Ground.data }, { on := 23, ground := Ground.chain }, { on := 0, ground := Ground.phase }, { on := 1, ground := Ground.phase }, { on := 2, ground := Ground.phase }, { on := 3, ground := Ground.phase }, { on := 4, ground := Ground.phase }, { on := 5, ground := Ground.phase }, { on := 6, ground := Ground.phase }, { on := 7, ground := Ground.phase }, { on := 8, ground := Ground.phase }, { on := 9, ground := Ground.phase }, { on := 10, ground := Ground.phase }, { on := 11, ground := Ground.phase }, { on := 12, ground := Ground.phase }, { on := 13, ground := Ground.phase }, { on := 14, ground := Ground.phase }, { on := 15, ground := Ground.phase }, { on := 16, ground := Ground.phase }, { on := 17, ground := Ground.phase }, { on := 18, ground := Ground.phase }, { on := 19, ground := Ground.phase }, { on := 20, ground := Ground.phase }, { on := 21, ground := Ground.phase }, { on := 22, ground := Ground.phase }, { on := 23, ground := Ground.phase }, { on := 24, ground := Ground.phase }, { on := 25, ground := Ground.phase }], guard := none }) rfl (fun K hK => ?_) AllReadyH.nil
              rw [if_pos (by rfl)]
              refine wp_store_row 27 _ _ rfl (y5.heap.size) (mdX ⟨B0, D0, B1, D1, B2, D2, B3, D3, B4, D4, B5, D5, B6, D6, none, 0, B8, D8⟩ m (.slice none 0 0)).toArray rfl rfl 27 _ HG.out (by kernel_rfl) (by rfl) (by simp [mdX]; exact ⟨rfl, rfl, rfl, rfl, rfl, rfl, rfl, rfl, rfl⟩) ?_
              have Q0 := Aside0.mk (Kd.R_bound (Kd.R_move (Kd.R_types Q0.out HG.out (by decide)) (fun k hk => setRow_other _ _ k (mdX ⟨B0, D0, B1, D1, B2, D2, B3, D3, B4, D4, B5, D5, B6, D6, none, 0, B8, D8⟩ m (.slice none 0 0)).toArray hk.2)))
              have Q1 := Aside0.mk (Kd.R_bound (Kd.R_move (Kd.R_types Q1.out HG.out (by decide)) (fun k hk => setRow_other _ _ k (mdX ⟨B0, D0, B1, D1, B2, D2, B3, D3, B4, D4, B5, D5, B6, D6, none, 0, B8, D8⟩ m (.slice none 0 0)).toArray hk.2)))
              have Q2 := Aside0.mk (Kd.R_bound (Kd.R_move (Kd.R_types Q2.out HG.out (by decide)) (fun k hk => setRow_other _ _ k (mdX ⟨B0, D0, B1, D1, B2, D2, B3, D3, B4, D4, B5, D5, B6, D6, none, 0, B8, D8⟩ m (.slice none 0 0)).toArray hk.2)))
              have Q3 := Aside0.mk (Kd.R_bound (Kd.R_move (Kd.R_types Q3.out HG.out (by decide)) (fun k hk => setRow_other _ _ k (mdX ⟨B0, D0, B1, D1, B2, D2, B3, D3, B4, D4, B5, D5, B6, D6, none, 0, B8, D8⟩ m (.slice none 0 0)).toArray hk.2)))
              have Q4 := Aside0.mk (Kd.R_bound (Kd.R_move (Kd.R_types Q4.out HG.out (by decide)) (fun k hk => setRow_other _ _ k (mdX ⟨B0, D0, B1, D1, B2, D2, B3, D3, B4, D4, B5, D5, B6, D6, none, 0, B8, D8⟩ m (.slice none 0 0)).toArray hk.2)))
              have Q5 := Aside0.mk (Kd.R_bound (Kd.R_move (Kd.R_types Q5.out HG.out (by decide)) (fun k hk => setRow_other _ _ k (mdX ⟨B0, D0, B1, D1, B2, D2, B3, D3, B4, D4, B5, D5, B6, D6, none, 0, B8, D8⟩ m (.slice none 0 0)).toArray hk.2)))
              have Q6 := Aside0.mk (Kd.R_bound (Kd.R_move (Kd.R_types Q6.out HG.out (by decide)) (fun k hk => setRow_other _ _ k (mdX ⟨B0, D0, B1, D1, B2, D2, B3, D3, B4, D4, B5, D5, B6, D6, none, 0, B8, D8⟩ m (.slice none 0 0)).toArray hk.2)))
              have Q8 := Aside0.mk (Kd.R_bound (Kd.R_move (Kd.R_types Q8.out HG.out (by decide)) (fun k hk => setRow_other _ _ k (mdX ⟨B0, D0, B1, D1, B2, D2, B3, D3, B4, D4, B5, D5, B6, D6, none, 0, B8, D8⟩ m (.slice none 0 0)).toArray hk.2)))
              have ZZ := Aside0.mk (below_setRow Z9.out hnb (mdX ⟨B0, D0, B1, D1, B2, D2, B3, D3, B4, D4, B5, D5, B6, D6, none, 0, B8, D8⟩ m (.slice none 0 0)).toArray)
              have HV := Aside0.mk (setRow_heap _ _ _ (mdX ⟨B0, D0, B1, D1, B2, D2, B3, D3, B4, D4, B5, D5, B6, D6, none, 0, B8, D8⟩ m (.slice none 0 0)).toArray _ _ HG.out)
              have HB4 : Aside0 (b4 ≤ (World.setRow y9 (y5.heap.size) (mdX ⟨B0, D0, B1, D1, B2, D2, B3, D3, B4, D4, B5, D5, B6, D6, none, 0, B8, D8⟩ m (.slice none 0 0)).toArray).heap.size) := ⟨by rw [setRow_size]; exact HB4.out⟩
              refine hK.out _ _ ?_ (fun hHeld => ?_)
              · exact KEEP.out _ ZZ
              clear hK K
              try simp only [Act.put, List.setIfInBounds_toArray, List.set_cons_zero, List.set_cons_succ]
              generalize World.setRow _ _ _ = w7 at *
              refine wpAnyH_done (by kernel_rfl) ?_ _
              refine NoPanic.normal ?_
              clear hHeld
              have hnbw : w0.heap.size ≤ y5.heap.size := hnb
              have hnblt : y5.heap.size < w7.heap.size := blk_lt HV.out
              have HMN : Aside0 (MdN w0.heap.size b4 w7.heap.size (y5.heap.size) w7 ⟨B0, D0, B1, D1, B2, D2, B3, D3, B4, D4, B5, D5, B6, D6, none, 0, B8, D8⟩ m) := ⟨⟨Kd.R_mono Q0.out (fun k hk => (⟨hk.1.2, hk.2.2.1⟩ : k ≠ y5.heap.size ∧ k < w7.heap.size)), Kd.R_mono Q1.out (fun k hk => (⟨hk.1.2, hk.2.2.1⟩ : k ≠ y5.heap.size ∧ k < w7.heap.size)), Kd.R_mono Q2.out (fun k hk => (⟨hk.1.2, hk.2.2.1⟩ : k ≠ y5.heap.size ∧ k < w7.heap.size)), Kd.R_mono Q3.out (fun k hk => (⟨⟨hk.1.2, hk.2.2.1⟩, hk.1.1.2⟩ : (k ≠ y5.heap.size ∧ k < w7.heap.size) ∧ k < b4)), Kd.R_mono Q4.out (fun k hk => (⟨⟨hk.1.2, hk.2.2.1⟩, hk.1.1.2⟩ : (k ≠ y5.heap.size ∧ k < w7.heap.size) ∧ b4 ≤ k)), Kd.R_mono Q5.out (fun k hk => (⟨⟨hk.1.2, hk.2.2.1⟩, hk.1.1.2⟩ : (k ≠ y5.heap.size ∧ k < w7.heap.size) ∧ b4 ≤ k)), Kd.R_mono Q6.out (fun k hk => (⟨⟨hk.1.2, hk.2.2.1⟩, hk.1.1.2⟩ : (k ≠ y5.heap.size ∧ k < w7.heap.size) ∧ b4 ≤ k)), Kd.R_mono Q8.out (fun k hk => (⟨hk.1.2, hk.2.2.1⟩ : k ≠ y5.heap.size ∧ k < w7.heap.size))⟩⟩
              clear Q0 Q1 Q2 Q3 Q4 Q5 Q6 Q8 hnb HG
              obtain ⟨rr, hrr⟩ : ∃ rr : MdR, (⟨B0, D0, B1, D1, B2, D2, B3, D3, B4, D4, B5, D5, B6, D6, none, 0, B8, D8⟩ : MdR) = rr := ⟨_, rfl⟩
              have HVV : Aside0 (w7.heap[y5.heap.size]? = some (.cells (mdX rr m (.slice none 0 0)).toArray 27 (0, 0))) := ⟨by rw [← hrr]; exact HV.out⟩
              rw [hrr] at HMN
              clear hrr HV
              generalize (y5.heap.size) = nb at HVV HMN hnbw hnblt ⊢
          case' wb5 =>
            refine AllReadyH.cons (o := { dst := some 3, op := Op.alloc 27, type := 0, pos := "ref.go:394", after := #[], guard := none }) rfl (fun K hK => ?_) AllReadyH.nil
            go_simp
            have Z5 := TA.out _ (.cells #[.slice none 0 0, .slice none 0 0, .slice none 0 0, .slice none 0 0, .slice none 0 0, .slice none 0 0, .slice none 0 0, .slice none 0 0, .slice none 0 0] 27) Z4
            have HG : Aside0 ((y4.alloc (.cells #[.slice none 0 0, .slice none 0 0, .slice none 0 0, .slice none 0 0, .slice none 0 0, .slice none 0 0, .slice none 0 0, .slice none 0 0, .slice none 0 0] 27)).heap[y4.heap.size]? = some (.cells #[.slice none 0 0, .slice none 0 0, .slice none 0 0, .slice none 0 0, .slice none 0 0, .slice none 0 0, .slice none 0 0, .slice none 0 0, .slice none 0 0] 27 (0, 0))) := ⟨blk_new y4 _⟩
            have hnb : w0.heap.size ≤ y4.heap.size := Z4.out.size
            have Q0 := Aside0.mk (Kd.R_alloc Q0.out (.cells #[.slice none 0 0, .slice none 0 0, .slice none 0 0, .slice none 0 0, .slice none 0 0, .slice none 0 0, .slice none 0 0, .slice none 0 0, .slice none 0 0] 27))
            have Q1 := Aside0.mk (Kd.R_alloc Q1.out (.cells #[.slice none 0 0, .slice none 0 0, .slice none 0 0, .slice none 0 0, .slice none 0 0, .slice none 0 0, .slice none 0 0, .slice none 0 0, .slice none 0 0] 27))
            have Q2 := Aside0.mk (Kd.R_alloc Q2.out (.cells #[.slice none 0 0, .slice none 0 0, .slice none 0 0, .slice none 0 0, .slice none 0 0, .slice none 0 0, .slice none 0 0, .slice none 0 0, .slice none 0 0] 27))
            have Q3 := Aside0.mk (Kd.R_alloc Q3.out (.cells #[.slice none 0 0, .slice none 0 0, .slice none 0 0, .slice none 0 0, .slice none 0 0, .slice none 0 0, .slice none 0 0, .slice none 0 0, .slice none 0 0] 27))
            have HB4 : Aside0 (b4 ≤ (y4.alloc (.cells #[.slice none 0 0, .slice none 0 0, .slice none 0 0, .slice none 0 0, .slice none 0 0, .slice none 0 0, .slice none 0 0, .slice none 0 0, .slice none 0 0] 27)).heap.size) := ⟨Nat.le_trans HB4.out (by rw [World.size_alloc]; omega)⟩
            refine hK.out _ _ ?_ (fun hHeld => ?_)
            · exact KEEP.out _ Z5
            clear hK K
            try simp only [Act.put, List.setIfInBounds_toArray, List.set_cons_zero, List.set_cons_succ]
            refine wpAnyH_ready (rs := [14]) (by kernel_rfl) (by simp) ?_
            refine AllReadyH.cons (o := { dst := some 20, op := Op.call { callee := Callee.value (Operand.func 24), args := #[Operand.tmp 19], argTypes := #[23] }, type := 23, pos := "ref.go:394", after := #[{ on := 13, ground := Ground.data }, { on := 11, ground := Ground.chain }], guard := none }) rfl (fun K hK => ?_) AllReadyH.nil
            go_simp
            refine (CC4.out _ Z5).mono ?_
            rintro e y6 ⟨B4, D4, rfl, hv, b⟩
            have Z6 := TH.out _ _ Z5 b
            have Q0 := Aside0.mk (Kd.R_below Q0.out b)
            have Q1 := Aside0.mk (Kd.R_below Q1.out b)
            have Q2 := Aside0.mk (Kd.R_below Q2.out b)
            have Q3 := Aside0.mk (Kd.R_below Q3.out b)
            have Q4 := Aside0.mk (Kd.R_mono (Kd.R_bound (Kd.R_lower hv (Nat.le_refl _))) (fun k hk => (⟨hk.1, Nat.le_trans HB4.out hk.2.1⟩ : True ∧ b4 ≤ k)))
            have Q4 := Aside0.mk (Kd.R_lower Q4.out Z5.out.size)
            have HB4 : Aside0 (b4 ≤ y6.heap.size) := ⟨Nat.le_trans HB4.out b.size⟩
            have HG := Aside0.mk (blk_below HG.out b)
            clear b hv
            go_wp2_with fail
            refine hK.out _ _ ?_ (fun hHeld => ?_)
            · exact KEEP.out _ Z6
            clear hK K
            try simp only [Act.put, List.setIfInBounds_toArray, List.set_cons_zero, List.set_cons_succ]
            refine wpAnyH_ready (rs := [17]) (by kernel_rfl) (by simp) ?_
            refine AllReadyH.cons (o := { dst := some 23, op := Op.call { callee := Callee.value (Operand.func 24), args := #[Operand.tmp 22], argTypes := #[23] }, type := 23, pos := "ref.go:394", after := #[{ on := 16, ground := Ground.data }, { on := 14, ground := Ground.chain }], guard := none }) rfl (fun K hK => ?_) AllReadyH.nil
            go_simp
            refine (CC5.out _ Z6).mono ?_
            rintro e y7 ⟨B5, D5, rfl, hv, b⟩
            have Z7 := TH.out _ _ Z6 b
            have Q0 := Aside0.mk (Kd.R_below Q0.out b)
            have Q1 := Aside0.mk (Kd.R_below Q1.out b)
            have Q2 := Aside0.mk (Kd.R_below Q2.out b)
            have Q3 := Aside0.mk (Kd.R_below Q3.out b)
            have Q4 := Aside0.mk (Kd.R_below Q4.out b)
            have Q5 := Aside0.mk (Kd.R_mono (Kd.R_bound (Kd.R_lower hv (Nat.le_refl _))) (fun k hk => (⟨hk.1, Nat.le_trans HB4.out hk.2.1⟩ : True ∧ b4 ≤ k)))
            have Q5 := Aside0.mk (Kd.R_lower Q5.out Z6.out.size)
            have HB4 : Aside0 (b4 ≤ y7.heap.size) := ⟨Nat.le_trans HB4.out b.size⟩
            have HG := Aside0.mk (blk_below HG.out b)
            clear b hv
            go_wp2_with fail
            refine hK.out _ _ ?_ (fun hHeld => ?_)
            · exact KEEP.out _ Z7
            clear hK K
            try simp only [Act.put, List.setIfInBounds_toArray, List.set_cons_zero, List.set_cons_succ]
            refine wpAnyH_ready (rs := [20]) (by kernel_rfl) (by simp) ?_
            refine AllReadyH.cons (o := { dst := some 26, op := Op.call { callee := Callee.value (Operand.func 24), args := #[Operand.tmp 25], argTypes := #[23] }, type := 23, pos := "ref.go:394", after := #[{ on := 19, ground := Ground.data }, { on := 17, ground := Ground.chain }], guard := none }) rfl (fun K hK => ?_) AllReadyH.nil
            go_simp
            refine (CC6.out _ Z7).mono ?_
            rintro e y8 ⟨B6, D6, rfl, hv, b⟩
            have Z8 := TH.out _ _ Z7 b
            have Q0 := Aside0.mk (Kd.R_below Q0.out b)
            have Q1 := Aside0.mk (Kd.R_below Q1.out b)
            have Q2 := Aside0.mk (Kd.R_below Q2.out b)
            have Q3 := Aside0.mk (Kd.R_below Q3.out b)
            have Q4 := Aside0.mk (Kd.R_below Q4.out b)
            have Q5 := Aside0.mk (Kd.R_below Q5.out b)
            have Q6 := Aside0.mk (Kd.R_mono (Kd.R_bound (Kd.R_lower hv (Nat.le_refl _))) (fun k hk => (⟨hk.1, Nat.le_trans HB4.out hk.2.1⟩ : True ∧ b4 ≤ k)))
            have Q6 := Aside0.mk (Kd.R_lower Q6.out Z7.out.size)
            have HB4 : Aside0 (b4 ≤ y8.heap.size) := ⟨Nat.le_trans HB4.out b.size⟩
            have HG := Aside0.mk (blk_below HG.out b)
            clear b hv
            go_wp2_with fail
            refine hK.out _ _ ?_ (fun hHeld => ?_)
            · exact KEEP.out _ Z8
            clear hK K
            try simp only [Act.put, List.setIfInBounds_toArray, List.set_cons_zero, List.set_cons_succ]
            refine wpAnyH_ready (rs := [23]) (by kernel_rfl) (by simp) ?_
            refine AllReadyH.cons (o := { dst := some 29, op := Op.call { callee := Callee.value (Operand.func 25), args := #[Operand.tmp 28], argTypes := #[25] }, type := 25, pos := "ref.go:394", after := #[{ on := 22, ground := Ground.data }, { on := 20, ground := Ground.chain }], guard := none }) rfl (fun K hK => ?_) AllReadyH.nil
            go_simp
            refine (CC8.out _ Z8).mono ?_
            rintro e y9 ⟨B8, D8, rfl, hv, b⟩
            have Z9 := TH.out _ _ Z8 b
            have Q0 := Aside0.mk (Kd.R_below Q0.out b)
            have Q1 := Aside0.mk (Kd.R_below Q1.out b)
            have Q2 := Aside0.mk (Kd.R_below Q2.out b)
            have Q3 := Aside0.mk (Kd.R_below Q3.out b)
            have Q4 := Aside0.mk (Kd.R_below Q4.out b)
            have Q5 := Aside0.mk (Kd.R_below Q5.out b)
            have Q6 := Aside0.mk (Kd.R_below Q6.out b)
            have Q8 := Aside0.mk (Kd.R_lower hv Z8.out.size)
            have HB4 : Aside0 (b4 ≤ y9.heap.size) := ⟨Nat.le_trans HB4.out b.size⟩
            have HG := Aside0.mk (blk_below HG.out b)
            clear b hv
            go_wp2_with fail
            refine hK.out _ _ ?_ (fun hHeld => ?_)
            · exact KEEP.out _ Z9
            clear hK K
            try simp only [Act.put, List.setIfInBounds_toArray, List.set_cons_zero, List.set_cons_succ]
            refine wpAnyH_take (i := 24) (oi := { dst := some 30, op := Op.build 27 #[(0, Operand.tmp 8), (1, Operand.tmp 11), (2, Operand.tmp 14), (3, Operand.tmp 17), (4, Operand.tmp 20), (5, Operand.tmp 23), (6, Operand.tmp 26), (8, Operand.tmp 29)], type := 27, pos := "ref.go:394", after := #[{ on := 2, ground := Ground.data }, { on := 5, ground := Ground.data }, { on := 8, ground := Ground.data }, { on := 11, ground := Ground.data }, { on := 14, ground := Ground.data }, { on := 17, ground := Ground.data }, { on := 20, ground := Ground.data }, { on := 23, ground := Ground.data }], guard := none }) (v := ?_) rfl (by kernel_rfl) (by kernel_rfl) (by kernel_rfl) (fun _ _ _ h => h) (Or.inl ⟨by rfl, ?_⟩) (by assumption) ?_
            rotate_left
            · first | (intro w hSw; (try dsimp only at hSw); go_simp; done) | (intro w hSw; (try dsimp only at hSw); go_simp; with_reducible rfl)
            try simp only [Act.put, List.setIfInBounds_toArray, List.set_cons_zero, List.set_cons_succ]
            refine wpAnyH_ready (rs := [26]) (by kernel_rfl) (by simp) ?_
            refine AllReadyH.cons (o := { dst := none, op := Op.store 27 (Operand.tmp 3) (Operand.tmp 30), type := 0, pos := "ref.go:394", after := #[{ on := 25, ground := Ground.data }, { on := 24, ground := Ground.data }, { on := 23, ground := Ground.chain }, { on := 0, ground := Ground.phase }, { on := 1, ground := Ground.phase }, { on := 2, ground := Ground.phase }, { on := 3, ground := Ground.phase }, { on := 4, ground := Ground.phase }, { on := 5, ground := Ground.phase }, { on := 6, ground := Ground.phase }, { on := 7, ground := Ground.phase }, { on := 8, ground := Ground.phase }, { on := 9, ground := Ground.phase }, { on := 10, ground := Ground.phase }, { on := 11, ground := Ground.phase }, { on := 12, ground := Ground.phase }, { on := 13, ground := Ground.phase }, { on := 14, ground := Ground.phase }, { on := 15, ground := Ground.phase }, { on := 16, ground := Ground.phase }, { on := 17, ground := Ground.phase }, { on := 18, ground := Ground.phase }, { on := 19, ground := Ground.phase }, { on := 20, ground := Ground.phase }, { on := 21, ground := Ground.phase }, { on := 22, ground := Ground.phase }, { on := 23, ground := Ground.phase }, { on := 24, ground := Ground.phase }, { on := 25, ground := Ground.phase }], guard := none }) rfl (fun K hK => ?_) AllReadyH.nil
            rw [if_pos (by rfl)]
            refine wp_store_row 27 _ _ rfl (y4.heap.size) (mdX ⟨B0, D0, B1, D1, B2, D2, B3, D3, B4, D4, B5, D5, B6, D6, none, 0, B8, D8⟩ m (.slice none 0 0)).toArray rfl rfl 27 _ HG.out (by kernel_rfl) (by rfl) (by simp [mdX]; exact ⟨rfl, rfl, rfl, rfl, rfl, rfl, rfl, rfl, rfl⟩) ?_
            have Q0 := Aside0.mk (Kd.R_bound (Kd.R_move (Kd.R_types Q0.out HG.out (by decide)) (fun k hk => setRow_other _ _ k (mdX ⟨B0, D0, B1, D1, B2, D2, B3, D3, B4, D4, B5, D5, B6, D6, none, 0, B8, D8⟩ m (.slice none 0 0)).toArray hk.2)))
            have Q1 := Aside0.mk (Kd.R_bound (Kd.R_move (Kd.R_types Q1.out HG.out (by decide)) (fun k hk => setRow_other _ _ k (mdX ⟨B0, D0, B1, D1, B2, D2, B3, D3, B4, D4, B5, D5, B6, D6, none, 0, B8, D8⟩ m (.slice none 0 0)).toArray hk.2)))
            have Q2 := Aside0.mk (Kd.R_bound (Kd.R_move (Kd.R_types Q2.out HG.out (by decide)) (fun k hk => setRow_other _ _ k (mdX ⟨B0, D0, B1, D1, B2, D2, B3, D3, B4, D4, B5, D5, B6, D6, none, 0, B8, D8⟩ m (.slice none 0 0)).toArray hk.2)))
            have Q3 := Aside0.mk (Kd.R_bound (Kd.R_move (Kd.R_types Q3.out HG.out (by decide)) (fun k hk => setRow_other _ _ k (mdX ⟨B0, D0, B1, D1, B2, D2, B3, D3, B4, D4, B5, D5, B6, D6, none, 0, B8, D8⟩ m (.slice none 0 0)).toArray hk.2)))
            have Q4 := Aside0.mk (Kd.R_bound (Kd.R_move (Kd.R_types Q4.out HG.out (by decide)) (fun k hk => setRow_other _ _ k (mdX ⟨B0, D0, B1, D1, B2, D2, B3, D3, B4, D4, B5, D5, B6, D6, none, 0, B8, D8⟩ m (.slice none 0 0)).toArray hk.2)))
            have Q5 := Aside0.mk (Kd.R_bound (Kd.R_move (Kd.R_types Q5.out HG.out (by decide)) (fun k hk => setRow_other _ _ k (mdX ⟨B0, D0, B1, D1, B2, D2, B3, D3, B4, D4, B5, D5, B6, D6, none, 0, B8, D8⟩ m (.slice none 0 0)).toArray hk.2)))
            have Q6 := Aside0.mk (Kd.R_bound (Kd.R_move (Kd.R_types Q6.out HG.out (by decide)) (fun k hk => setRow_other _ _ k (mdX ⟨B0, D0, B1, D1, B2, D2, B3, D3, B4, D4, B5, D5, B6, D6, none, 0, B8, D8⟩ m (.slice none 0 0)).toArray hk.2)))
            have Q8 := Aside0.mk (Kd.R_bound (Kd.R_move (Kd.R_types Q8.out HG.out (by decide)) (fun k hk => setRow_other _ _ k (mdX ⟨B0, D0, B1, D1, B2, D2, B3, D3, B4, D4, B5, D5, B6, D6, none, 0, B8, D8⟩ m (.slice none 0 0)).toArray hk.2)))
            have ZZ := Aside0.mk (below_setRow Z9.out hnb (mdX ⟨B0, D0, B1, D1, B2, D2, B3, D3, B4, D4, B5, D5, B6, D6, none, 0, B8, D8⟩ m (.slice none 0 0)).toArray)
            have HV := Aside0.mk (setRow_heap _ _ _ (mdX ⟨B0, D0, B1, D1, B2, D2, B3, D3, B4, D4, B5, D5, B6, D6, none, 0, B8, D8⟩ m (.slice none 0 0)).toArray _ _ HG.out)
            have HB4 : Aside0 (b4 ≤ (World.setRow y9 (y4.heap.size) (mdX ⟨B0, D0, B1, D1, B2, D2, B3, D3, B4, D4, B5, D5, B6, D6, none, 0, B8, D8⟩ m (.slice none 0 0)).toArray).heap.size) := ⟨by rw [setRow_size]; exact HB4.out⟩
            refine hK.out _ _ ?_ (fun hHeld => ?_)
            · exact KEEP.out _ ZZ
            clear hK K
            try simp only [Act.put, List.setIfInBounds_toArray, List.set_cons_zero, List.set_cons_succ]
            generalize World.setRow _ _ _ = w7 at *
            refine wpAnyH_done (by kernel_rfl) ?_ _
            refine NoPanic.normal ?_
            clear hHeld
            have hnbw : w0.heap.size ≤ y4.heap.size := hnb
            have hnblt : y4.heap.size < w7.heap.size := blk_lt HV.out
            have HMN : Aside0 (MdN w0.heap.size b4 w7.heap.size (y4.heap.size) w7 ⟨B0, D0, B1, D1, B2, D2, B3, D3, B4, D4, B5, D5, B6, D6, none, 0, B8, D8⟩ m) := ⟨⟨Kd.R_mono Q0.out (fun k hk => (⟨hk.1.2, hk.2.2.1⟩ : k ≠ y4.heap.size ∧ k < w7.heap.size)), Kd.R_mono Q1.out (fun k hk => (⟨hk.1.2, hk.2.2.1⟩ : k ≠ y4.heap.size ∧ k < w7.heap.size)), Kd.R_mono Q2.out (fun k hk => (⟨hk.1.2, hk.2.2.1⟩ : k ≠ y4.heap.size ∧ k < w7.heap.size)), Kd.R_mono Q3.out (fun k hk => (⟨⟨hk.1.2, hk.2.2.1⟩, hk.1.1.2⟩ : (k ≠ y4.heap.size ∧ k < w7.heap.size) ∧ k < b4)), Kd.R_mono Q4.out (fun k hk => (⟨⟨hk.1.2, hk.2.2.1⟩, hk.1.1.2⟩ : (k ≠ y4.heap.size ∧ k < w7.heap.size) ∧ b4 ≤ k)), Kd.R_mono Q5.out (fun k hk => (⟨⟨hk.1.2, hk.2.2.1⟩, hk.1.1.2⟩ : (k ≠ y4.heap.size ∧ k < w7.heap.size) ∧ b4 ≤ k)), Kd.R_mono Q6.out (fun k hk => (⟨⟨hk.1.2, hk.2.2.1⟩, hk.1.1.2⟩ : (k ≠ y4.heap.size ∧ k < w7.heap.size) ∧ b4 ≤ k)), Kd.R_mono Q8.out (fun k hk => (⟨hk.1.2, hk.2.2.1⟩ : k ≠ y4.heap.size ∧ k < w7.heap.size))⟩⟩
            clear Q0 Q1 Q2 Q3 Q4 Q5 Q6 Q8 hnb HG
            obtain ⟨rr, hrr⟩ : ∃ rr : MdR, (⟨B0, D0, B1, D1, B2, D2, B3, D3, B4, D4, B5, D5, B6, D6, none, 0, B8, D8⟩ : MdR) = rr := ⟨_, rfl⟩
            have HVV : Aside0 (w7.heap[y4.heap.size]? = some (.cells (mdX rr m (.slice none 0 0)).toArray 27 (0, 0))) := ⟨by rw [← hrr]; exact HV.out⟩
            rw [hrr] at HMN
            clear hrr HV
            generalize (y4.heap.size) = nb at HVV HMN hnbw hnblt ⊢
        case' wb4 =>
          refine AllReadyH.cons (o := { dst := some 3, op := Op.alloc 27, type := 0, pos := "ref.go:394", after := #[], guard := none }) rfl (fun K hK => ?_) AllReadyH.nil
          go_simp
          have Z4 := TA.out _ (.cells #[.slice none 0 0, .slice none 0 0, .slice none 0 0, .slice none 0 0, .slice none 0 0, .slice none 0 0, .slice none 0 0, .slice none 0 0, .slice none 0 0] 27) Z3
          have HG : Aside0 ((y3.alloc (.cells #[.slice none 0 0, .slice none 0 0, .slice none 0 0, .slice none 0 0, .slice none 0 0, .slice none 0 0, .slice none 0 0, .slice none 0 0, .slice none 0 0] 27)).heap[y3.heap.size]? = some (.cells #[.slice none 0 0, .slice none 0 0, .slice none 0 0, .slice none 0 0, .slice none 0 0, .slice none 0 0, .slice none 0 0, .slice none 0 0, .slice none 0 0] 27 (0, 0))) := ⟨blk_new y3 _⟩
          have hnb : w0.heap.size ≤ y3.heap.size := Z3.out.size
          have Q0 := Aside0.mk (Kd.R_alloc Q0.out (.cells #[.slice none 0 0, .slice none 0 0, .slice none 0 0, .slice none 0 0, .slice none 0 0, .slice none 0 0, .slice none 0 0, .slice none 0 0, .slice none 0 0] 27))
          have Q1 := Aside0.mk (Kd.R_alloc Q1.out (.cells #[.slice none 0 0, .slice none 0 0, .slice none 0 0, .slice none 0 0, .slice none 0 0, .slice none 0 0, .slice none 0 0, .slice none 0 0, .slice none 0 0] 27))
          have Q2 := Aside0.mk (Kd.R_alloc Q2.out (.cells #[.slice none 0 0, .slice none 0 0, .slice none 0 0, .slice none 0 0, .slice none 0 0, .slice none 0 0, .slice none 0 0, .slice none 0 0, .slice none 0 0] 27))
          refine hK.out _ _ ?_ (fun hHeld => ?_)
          · exact KEEP.out _ Z4
          clear hK K
          try simp only [Act.put, List.setIfInBounds_toArray, List.set_cons_zero, List.set_cons_succ]
          refine wpAnyH_ready (rs := [11]) (by kernel_rfl) (by simp) ?_
          refine AllReadyH.cons (o := { dst := some 17, op := Op.call { callee := Callee.value (Operand.func 24), args := #[Operand.tmp 16], argTypes := #[23] }, type := 23, pos := "ref.go:394", after := #[{ on := 10, ground := Ground.data }, { on := 8, ground := Ground.chain }], guard := none }) rfl (fun K hK => ?_) AllReadyH.nil
          go_simp
          refine (CC3.out _ Z4).mono ?_
          rintro e y5 ⟨B3, D3, rfl, hv, b⟩
          have Z5 := TH.out _ _ Z4 b
          have Q0 := Aside0.mk (Kd.R_below Q0.out b)
          have Q1 := Aside0.mk (Kd.R_below Q1.out b)
          have Q2 := Aside0.mk (Kd.R_below Q2.out b)
          have Q3 := Aside0.mk (Kd.R_lower hv Z4.out.size)
          obtain ⟨b4, hb4⟩ : ∃ b4, b4 = y5.heap.size := ⟨_, rfl⟩
          have HB4 : Aside0 (b4 ≤ y5.heap.size) := ⟨Nat.le_of_eq hb4⟩
          have Q3 := Aside0.mk (Kd.R_mono (Kd.R_bound Q3.out) (fun k hk => (⟨hk.1, by rw [hb4]; exact hk.2.2.1⟩ : True ∧ k < b4)))
          clear hb4
          have HG := Aside0.mk (blk_below HG.out b)
          clear b hv
          go_wp2_with fail
          refine hK.out _ _ ?_ (fun hHeld => ?_)
          · exact KEEP.out _ Z5
          clear hK K
          try simp only [Act.put, List.setIfInBounds_toArray, List.set_cons_zero, List.set_cons_succ]
          refine wpAnyH_ready (rs := [14]) (by kernel_rfl) (by simp) ?_
          refine AllReadyH.cons (o := { dst := some 20, op := Op.call { callee := Callee.value (Operand.func 24), args := #[Operand.tmp 19], argTypes := #[23] }, type := 23, pos := "ref.go:394", after := #[{ on := 13, ground := Ground.data }, { on := 11, ground := Ground.chain }], guard := none }) rfl (fun K hK => ?_) AllReadyH.nil
          go_simp
          refine (CC4.out _ Z5).mono ?_
          rintro e y6 ⟨B4, D4, rfl, hv, b⟩
          have Z6 := TH.out _ _ Z5 b
          have Q0 := Aside0.mk (Kd.R_below Q0.out b)
          have Q1 := Aside0.mk (Kd.R_below Q1.out b)
          have Q2 := Aside0.mk (Kd.R_below Q2.out b)
          have Q3 := Aside0.mk (Kd.R_below Q3.out b)
          have Q4 := Aside0.mk (Kd.R_mono (Kd.R_bound (Kd.R_lower hv (Nat.le_refl _))) (fun k hk => (⟨hk.1, Nat.le_trans HB4.out hk.2.1⟩ : True ∧ b4 ≤ k)))
          have Q4 := Aside0.mk (Kd.R_lower Q4.out Z5.out.size)
          have HB4 : Aside0 (b4 ≤ y6.heap.size) := ⟨Nat.le_trans HB4.out b.size⟩
          have HG := Aside0.mk (blk_below HG.out b)
          clear b hv
          go_wp2_with fail
          refine hK.out _ _ ?_ (fun hHeld => ?_)
          · exact KEEP.out _ Z6
          clear hK K
          try simp only [Act.put, List.setIfInBounds_toArray, List.set_cons_zero, List.set_cons_succ]
          refine wpAnyH_ready (rs := [17]) (by kernel_rfl) (by simp) ?_
          refine AllReadyH.cons (o := { dst := some 23, op := Op.call { callee := Callee.value (Operand.func 24), args := #[Operand.tmp 22], argTypes := #[23] }, type := 23, pos := "ref.go:394", after := #[{ on := 16, ground := Ground.data }, { on := 14, ground := Ground.chain }], guard := none }) rfl (fun K hK => ?_) AllReadyH.nil
          go_simp
          refine (CC5.out _ Z6).mono ?_
          rintro e y7 ⟨B5, D5, rfl, hv, b⟩
          have Z7 := TH.out _ _ Z6 b
          have Q0 := Aside0.mk (Kd.R_below Q0.out b)
          have Q1 := Aside0.mk (Kd.R_below Q1.out b)
          have Q2 := Aside0.mk (Kd.R_below Q2.out b)
          have Q3 := Aside0.mk (Kd.R_below Q3.out b)
          have Q4 := Aside0.mk (Kd.R_below Q4.out b)
          have Q5 := Aside0.mk (Kd.R_mono (Kd.R_bound (Kd.R_lower hv (Nat.le_refl _))) (fun k hk => (⟨hk.1, Nat.le_trans HB4.out hk.2.1⟩ : True ∧ b4 ≤ k)))
          have Q5 := Aside0.mk (Kd.R_lower Q5.out Z6.out.size)
          have HB4 : Aside0 (b4 ≤ y7.heap.size) := ⟨Nat.le_trans HB4.out b.size⟩
          have HG := Aside0.mk (blk_below HG.out b)
          clear b hv
          go_wp2_with fail
          refine hK.out _ _ ?_ (fun hHeld => ?_)
          · exact KEEP.out _ Z7
          clear hK K
          try simp only [Act.put, List.setIfInBounds_toArray, List.set_cons_zero, List.set_cons_succ]
          refine wpAnyH_ready (rs := [20]) (by kernel_rfl) (by simp) ?_
          refine AllReadyH.cons (o := { dst := some 26, op := Op.call { callee := Callee.value (Operand.func 24), args := #[Operand.tmp 25], argTypes := #[23] }, type := 23, pos := "ref.go:394", after := #[{ on := 19, ground := Ground.data }, { on := 17, ground := Ground.chain }], guard := none }) rfl (fun K hK => ?_) AllReadyH.nil
          go_simp
          refine (CC6.out _ Z7).mono ?_
          rintro e y8 ⟨B6, D6, rfl, hv, b⟩
          have Z8 := TH.out _ _ Z7 b
          have Q0 := Aside0.mk (Kd.R_below Q0.out b)
          have Q1 := Aside0.mk (Kd.R_below Q1.out b)
          have Q2 := Aside0.mk (Kd.R_below Q2.out b)
          have Q3 := Aside0.mk (Kd.R_below Q3.out b)
          have Q4 := Aside0.mk (Kd.R_below Q4.out b)
          have Q5 := Aside0.mk (Kd.R_below Q5.out b)
          have Q6 := Aside0.mk (Kd.R_mono (Kd.R_bound (Kd.R_lower hv (Nat.le_refl _))) (fun k hk => (⟨hk.1, Nat.le_trans HB4.out hk.2.1⟩ : True ∧ b4 ≤ k)))
          have Q6 := Aside0.mk (Kd.R_lower Q6.out Z7.out.size)
          have HB4 : Aside0 (b4 ≤ y8.heap.size) := ⟨Nat.le_trans HB4.out b.size⟩
          have HG := Aside0.mk (blk_below HG.out b)
          clear b hv
          go_wp2_with fail
          refine hK.out _ _ ?_ (fun hHeld => ?_)
          · exact KEEP.out _ Z8
          clear hK K
          try simp only [Act.put, List.setIfInBounds_toArray, List.set_cons_zero, List.set_cons_succ]
          refine wpAnyH_ready (rs := [23]) (by kernel_rfl) (by simp) ?_
          refine AllReadyH.cons (o := { dst := some 29, op := Op.call { callee := Callee.value (Operand.func 25), args := #[Operand.tmp 28], argTypes := #[25] }, type := 25, pos := "ref.go:394", after := #[{ on := 22, ground := Ground.data }, { on := 20, ground := Ground.chain }], guard := none }) rfl (fun K hK => ?_) AllReadyH.nil
          go_simp
          refine (CC8.out _ Z8).mono ?_
          rintro e y9 ⟨B8, D8, rfl, hv, b⟩
          have Z9 := TH.out _ _ Z8 b
          have Q0 := Aside0.mk (Kd.R_below Q0.out b)
          have Q1 := Aside0.mk (Kd.R_below Q1.out b)
          have Q2 := Aside0.mk (Kd.R_below Q2.out b)
          have Q3 := Aside0.mk (Kd.R_below Q3.out b)
          have Q4 := Aside0.mk (Kd.R_below Q4.out b)
          have Q5 := Aside0.mk (Kd.R_below Q5.out b)
          have Q6 := Aside0.mk (Kd.R_below Q6.out b)
          have Q8 := Aside0.mk (Kd.R_lower hv Z8.out.size)
          have HB4 : Aside0 (b4 ≤ y9.heap.size) := ⟨Nat.le_trans HB4.out b.size⟩
          have HG := Aside0.mk (blk_below HG.out b)
          clear b hv
          go_wp2_with fail
          refine hK.out _ _ ?_ (fun hHeld => ?_)
          · exact KEEP.out _ Z9
          clear hK K
          try simp only [Act.put, List.setIfInBounds_toArray, List.set_cons_zero, List.set_cons_succ]
          refine wpAnyH_take (i := 24) (oi := { dst := some 30, op := Op.build 27 #[(0, Operand.tmp 8), (1, Operand.tmp 11), (2, Operand.tmp 14), (3, Operand.tmp 17), (4, Operand.tmp 20), (5, Operand.tmp 23), (6, Operand.tmp 26), (8, Operand.tmp 29)], type := 27, pos := "ref.go:394", after := #[{ on := 2, ground := Ground.data }, { on := 5, ground := Ground.data }, { on := 8, ground := Ground.data }, { on := 11, ground := Ground.data }, { on := 14, ground := Ground.data }, { on := 17, ground := Ground.data }, { on := 20, ground := Ground.data }, { on := 23, ground := Ground.data }], guard := none }) (v := ?_) rfl (by kernel_rfl) (by kernel_rfl) (by kernel_rfl) (fun _ _ _ h => h) (Or.inl ⟨by rfl, ?_⟩) (by assumption) ?_
          rotate_left
          · first | (intro w hSw; (try dsimp only at hSw); go_simp; done) | (intro w hSw; (try dsimp only at hSw); go_simp; with_reducible rfl)
          try simp only [Act.put, List.setIfInBounds_toArray, List.set_cons_zero, List.set_cons_succ]
          refine wpAnyH_ready (rs := [26]) (by kernel_rfl) (by simp) ?_
          refine AllReadyH.cons (o := { dst := none, op := Op.store 27 (Operand.tmp 3) (Operand.tmp 30), type := 0, pos := "ref.go:394", after := #[{ on := 25, ground := Ground.data }, { on := 24, ground := Ground.data }, { on := 23, ground := Ground.chain }, { on := 0, ground := Ground.phase }, { on := 1, ground := Ground.phase }, { on := 2, ground := Ground.phase }, { on := 3, ground := Ground.phase }, { on := 4, ground := Ground.phase }, { on := 5, ground := Ground.phase }, { on := 6, ground := Ground.phase }, { on := 7, ground := Ground.phase }, { on := 8, ground := Ground.phase }, { on := 9, ground := Ground.phase }, { on := 10, ground := Ground.phase }, { on := 11, ground := Ground.phase }, { on := 12, ground := Ground.phase }, { on := 13, ground := Ground.phase }, { on := 14, ground := Ground.phase }, { on := 15, ground := Ground.phase }, { on := 16, ground := Ground.phase }, { on := 17, ground := Ground.phase }, { on := 18, ground := Ground.phase }, { on := 19, ground := Ground.phase }, { on := 20, ground := Ground.phase }, { on := 21, ground := Ground.phase }, { on := 22, ground := Ground.phase }, { on := 23, ground := Ground.phase }, { on := 24, ground := Ground.phase }, { on := 25, ground := Ground.phase }], guard := none }) rfl (fun K hK => ?_) AllReadyH.nil
          rw [if_pos (by rfl)]
          refine wp_store_row 27 _ _ rfl (y3.heap.size) (mdX ⟨B0, D0, B1, D1, B2, D2, B3, D3, B4, D4, B5, D5, B6, D6, none, 0, B8, D8⟩ m (.slice none 0 0)).toArray rfl rfl 27 _ HG.out (by kernel_rfl) (by rfl) (by simp [mdX]; exact ⟨rfl, rfl, rfl, rfl, rfl, rfl, rfl, rfl, rfl⟩) ?_
          have Q0 := Aside0.mk (Kd.R_bound (Kd.R_move (Kd.R_types Q0.out HG.out (by decide)) (fun k hk => setRow_other _ _ k (mdX ⟨B0, D0, B1, D1, B2, D2, B3, D3, B4, D4, B5, D5, B6, D6, none, 0, B8, D8⟩ m (.slice none 0 0)).toArray hk.2)))
          have Q1 := Aside0.mk (Kd.R_bound (Kd.R_move (Kd.R_types Q1.out HG.out (by decide)) (fun k hk => setRow_other _ _ k (mdX ⟨B0, D0, B1, D1, B2, D2, B3, D3, B4, D4, B5, D5, B6, D6, none, 0, B8, D8⟩ m (.slice none 0 0)).toArray hk.2)))
          have Q2 := Aside0.mk (Kd.R_bound (Kd.R_move (Kd.R_types Q2.out HG.out (by decide)) (fun k hk => setRow_other _ _ k (mdX ⟨B0, D0, B1, D1, B2, D2, B3, D3, B4, D4, B5, D5, B6, D6, none, 0, B8, D8⟩ m (.slice none 0 0)).toArray hk.2)))
          have Q3 := Aside0.mk (Kd.R_bound (Kd.R_move (Kd.R_types Q3.out HG.out (by decide)) (fun k hk => setRow_other _ _ k (mdX ⟨B0, D0, B1, D1, B2, D2, B3, D3, B4, D4, B5, D5, B6, D6, none, 0, B8, D8⟩ m (.slice none 0 0)).toArray hk.2)))
          have Q4 := Aside0.mk (Kd.R_bound (Kd.R_move (Kd.R_types Q4.out HG.out (by decide)) (fun k hk => setRow_other _ _ k (mdX ⟨B0, D0, B1, D1, B2, D2, B3, D3, B4, D4, B5, D5, B6, D6, none, 0, B8, D8⟩ m (.slice none 0 0)).toArray hk.2)))
          have Q5 := Aside0.mk (Kd.R_bound (Kd.R_move (Kd.R_types Q5.out HG.out (by decide)) (fun k hk => setRow_other _ _ k (mdX ⟨B0, D0, B1, D1, B2, D2, B3, D3, B4, D4, B5, D5, B6, D6, none, 0, B8, D8⟩ m (.slice none 0 0)).toArray hk.2)))
          have Q6 := Aside0.mk (Kd.R_bound (Kd.R_move (Kd.R_types Q6.out HG.out (by decide)) (fun k hk => setRow_other _ _ k (mdX ⟨B0, D0, B1, D1, B2, D2, B3, D3, B4, D4, B5, D5, B6, D6, none, 0, B8, D8⟩ m (.slice none 0 0)).toArray hk.2)))
          have Q8 := Aside0.mk (Kd.R_bound (Kd.R_move (Kd.R_types Q8.out HG.out (by decide)) (fun k hk => setRow_other _ _ k (mdX ⟨B0, D0, B1, D1, B2, D2, B3, D3, B4, D4, B5, D5, B6, D6, none, 0, B8, D8⟩ m (.slice none 0 0)).toArray hk.2)))
          have ZZ := Aside0.mk (below_setRow Z9.out hnb (mdX ⟨B0, D0, B1, D1, B2, D2, B3, D3, B4, D4, B5, D5, B6, D6, none, 0, B8, D8⟩ m (.slice none 0 0)).toArray)
          have HV := Aside0.mk (setRow_heap _ _ _ (mdX ⟨B0, D0, B1, D1, B2, D2, B3, D3, B4, D4, B5, D5, B6, D6, none, 0, B8, D8⟩ m (.slice none 0 0)).toArray _ _ HG.out)
          have HB4 : Aside0 (b4 ≤ (World.setRow y9 (y3.heap.size) (mdX ⟨B0, D0, B1, D1, B2, D2, B3, D3, B4, D4, B5, D5, B6, D6, none, 0, B8, D8⟩ m (.slice none 0 0)).toArray).heap.size) := ⟨by rw [setRow_size]; exact HB4.out⟩
          refine hK.out _ _ ?_ (fun hHeld => ?_)
          · exact KEEP.out _ ZZ
          clear hK K
          try simp only [Act.put, List.setIfInBounds_toArray, List.set_cons_zero, List.set_cons_succ]
          generalize World.setRow _ _ _ = w7 at *
          refine wpAnyH_done (by kernel_rfl) ?_ _
          refine NoPanic.normal ?_
          clear hHeld
          have hnbw : w0.heap.size ≤ y3.heap.size := hnb
          have hnblt : y3.heap.size < w7.heap.size := blk_lt HV.out
          have HMN : Aside0 (MdN w0.heap.size b4 w7.heap.size (y3.heap.size) w7 ⟨B0, D0, B1, D1, B2, D2, B3, D3, B4, D4, B5, D5, B6, D6, none, 0, B8, D8⟩ m) := ⟨⟨Kd.R_mono Q0.out (fun k hk => (⟨hk.1.2, hk.2.2.1⟩ : k ≠ y3.heap.size ∧ k < w7.heap.size)), Kd.R_mono Q1.out (fun k hk => (⟨hk.1.2, hk.2.2.1⟩ : k ≠ y3.heap.size ∧ k < w7.heap.size)), Kd.R_mono Q2.out (fun k hk => (⟨hk.1.2, hk.2.2.1⟩ : k ≠ y3.heap.size ∧ k < w7.heap.size)), Kd.R_mono Q3.out (fun k hk => (⟨⟨hk.1.2, hk.2.2.1⟩, hk.1.1.2⟩ : (k ≠ y3.heap.size ∧ k < w7.heap.size) ∧ k < b4)), Kd.R_mono Q4.out (fun k hk => (⟨⟨hk.1.2, hk.2.2.1⟩, hk.1.1.2⟩ : (k ≠ y3.heap.size ∧ k < w7.heap.size) ∧ b4 ≤ k)), Kd.R_mono Q5.out (fun k hk => (⟨⟨hk.1.2, hk.2.2.1⟩, hk.1.1.2⟩ : (k ≠ y3.heap.size ∧ k < w7.heap.size) ∧ b4 ≤ k)), Kd.R_mono Q6.out (fun k hk => (⟨⟨hk.1.2, hk.2.2.1⟩, hk.1.1.2⟩ : (k ≠ y3.heap.size ∧ k < w7.heap.size) ∧ b4 ≤ k)), Kd.R_mono Q8.out (fun k hk => (⟨hk.1.2, hk.2.2.1⟩ : k ≠ y3.heap.size ∧ k < w7.heap.size))⟩⟩
          clear Q0 Q1 Q2 Q3 Q4 Q5 Q6 Q8 hnb HG
          obtain ⟨rr, hrr⟩ : ∃ rr : MdR, (⟨B0, D0, B1, D1, B2, D2, B3, D3, B4, D4, B5, D5, B6, D6, none, 0, B8, D8⟩ : MdR) = rr := ⟨_, rfl⟩
          have HVV : Aside0 (w7.heap[y3.heap.size]? = some (.cells (mdX rr m (.slice none 0 0)).toArray 27 (0, 0))) := ⟨by rw [← hrr]; exact HV.out⟩
          rw [hrr] at HMN
          clear hrr HV
          generalize (y3.heap.size) = nb at HVV HMN hnbw hnblt ⊢
      case' wb3 =>
        refine AllReadyH.cons (o := { dst := some 3, op := Op.alloc 27, type := 0, pos := "ref.go:394", after := #[], guard := none }) rfl (fun K hK => ?_) AllReadyH.nil
        go_simp
        have Z3 := TA.out _ (.cells #[.slice none 0 0, .slice none 0 0, .slice none 0 0, .slice none 0 0, .slice none 0 0, .slice none 0 0, .slice none 0 0, .slice none 0 0, .slice none 0 0] 27) Z2
        have HG : Aside0 ((y2.alloc (.cells #[.slice none 0 0, .slice none 0 0, .slice none 0 0, .slice none 0 0, .slice none 0 0, .slice none 0 0, .slice none 0 0, .slice none 0 0, .slice none 0 0] 27)).heap[y2.heap.size]? = some (.cells #[.slice none 0 0, .slice none 0 0, .slice none 0 0, .slice none 0 0, .slice none 0 0, .slice none 0 0, .slice none 0 0, .slice none 0 0, .slice none 0 0] 27 (0, 0))) := ⟨blk_new y2 _⟩
        have hnb : w0.heap.size ≤ y2.heap.size := Z2.out.size
        have Q0 := Aside0.mk (Kd.R_alloc Q0.out (.cells #[.slice none 0 0, .slice none 0 0, .slice none 0 0, .slice none 0 0, .slice none 0 0, .slice none 0 0, .slice none 0 0, .slice none 0 0, .slice none 0 0] 27))
        have Q1 := Aside0.mk (Kd.R_alloc Q1.out (.cells #[.slice none 0 0, .slice none 0 0, .slice none 0 0, .slice none 0 0, .slice none 0 0, .slice none 0 0, .slice none 0 0, .slice none 0 0, .slice none 0 0] 27))
        refine hK.out _ _ ?_ (fun hHeld => ?_)
        · exact KEEP.out _ Z3
        clear hK K
        try simp only [Act.put, List.setIfInBounds_toArray, List.set_cons_zero, List.set_cons_succ]
        refine wpAnyH_ready (rs := [8]) (by kernel_rfl) (by simp) ?_
        refine AllReadyH.cons (o := { dst := some 14, op := Op.call { callee := Callee.value (Operand.func 23), args := #[Operand.tmp 13], argTypes := #[22] }, type := 22, pos := "ref.go:394", after := #[{ on := 7, ground := Ground.data }, { on := 5, ground := Ground.chain }], guard := none }) rfl (fun K hK => ?_) AllReadyH.nil
        go_simp
        refine (CC2.out _ Z3).mono ?_
        rintro e y4 ⟨B2, D2, rfl, hv, b⟩
        have Z4 := TH.out _ _ Z3 b
        have Q0 := Aside0.mk (Kd.R_below Q0.out b)
        have Q1 := Aside0.mk (Kd.R_below Q1.out b)
        have Q2 := Aside0.mk (Kd.R_lower hv Z3.out.size)
        have HG := Aside0.mk (blk_below HG.out b)
        clear b hv
        go_wp2_with fail
        refine hK.out _ _ ?_ (fun hHeld => ?_)
        · exact KEEP.out _ Z4
        clear hK K
        try simp only [Act.put, List.setIfInBounds_toArray, List.set_cons_zero, List.set_cons_succ]
        refine wpAnyH_ready (rs := [11]) (by kernel_rfl) (by simp) ?_
        refine AllReadyH.cons (o := { dst := some 17, op := Op.call { callee := Callee.value (Operand.func 24), args := #[Operand.tmp 16], argTypes := #[23] }, type := 23, pos := "ref.go:394", after := #[{ on := 10, ground := Ground.data }, { on := 8, ground := Ground.chain }], guard := none }) rfl (fun K hK => ?_) AllReadyH.nil
        go_simp
        refine (CC3.out _ Z4).mono ?_
        rintro e y5 ⟨B3, D3, rfl, hv, b⟩
        have Z5 := TH.out _ _ Z4 b
        have Q0 := Aside0.mk (Kd.R_below Q0.out b)
        have Q1 := Aside0.mk (Kd.R_below Q1.out b)
        have Q2 := Aside0.mk (Kd.R_below Q2.out b)
        have Q3 := Aside0.mk (Kd.R_lower hv Z4.out.size)
        obtain ⟨b4, hb4⟩ : ∃ b4, b4 = y5.heap.size := ⟨_, rfl⟩
        have HB4 : Aside0 (b4 ≤ y5.heap.size) := ⟨Nat.le_of_eq hb4⟩
        have Q3 := Aside0.mk (Kd.R_mono (Kd.R_bound Q3.out) (fun k hk => (⟨hk.1, by rw [hb4]; exact hk.2.2.1⟩ : True ∧ k < b4)))
        clear hb4
        have HG := Aside0.mk (blk_below HG.out b)
        clear b hv
        go_wp2_with fail
        refine hK.out _ _ ?_ (fun hHeld => ?_)
        · exact KEEP.out _ Z5
        clear hK K
        try simp only [Act.put, List.setIfInBounds_toArray, List.set_cons_zero, List.set_cons_succ]
        refine wpAnyH_ready (rs := [14]) (by kernel_rfl) (by simp) ?_
        refine AllReadyH.cons (o := { dst := some 20, op := Op.call { callee := Callee.value (Operand.func 24), args := #[Operand.tmp 19], argTypes := #[23] }, type := 23, pos := "ref.go:394", after := #[{ on := 13, ground := Ground.data }, { on := 11, ground := Ground.chain }], guard := none }) rfl (fun K hK => ?_) AllReadyH.nil
        go_simp
        refine (CC4.out _ Z5).mono ?_
        rintro e y6 ⟨B4, D4, rfl, hv, b⟩
        have Z6 := TH.out _ _ Z5 b
        have Q0 := Aside0.mk (Kd.R_below Q0.out b)
        have Q1 := Aside0.mk (Kd.R_below Q1.out b)
        have Q2 := Aside0.mk (Kd.R_below Q2.out b)
        have Q3 := Aside0.mk (Kd.R_below Q3.out b)
        have Q4 := Aside0.mk (Kd.R_mono (Kd.R_bound (Kd.R_lower hv (Nat.le_refl _))) (fun k hk => (⟨hk.1, Nat.le_trans HB4.out hk.2.1⟩ : True ∧ b4 ≤ k)))
        have Q4 := Aside0.mk (Kd.R_lower Q4.out Z5.out.size)
        have HB4 : Aside0 (b4 ≤ y6.heap.size) := ⟨Nat.le_trans HB4.out b.size⟩
        have HG := Aside0.mk (blk_below HG.out b)
        clear b hv
        go_wp2_with fail
        refine hK.out _ _ ?_ (fun hHeld => ?_)
        · exact KEEP.out _ Z6
        clear hK K
        try simp only [Act.put, List.setIfInBounds_toArray, List.set_cons_zero, List.set_cons_succ]
        refine wpAnyH_ready (rs := [17]) (by kernel_rfl) (by simp) ?_
        refine AllReadyH.cons (o := { dst := some 23, op := Op.call { callee := Callee.value (Operand.func 24), args := #[Operand.tmp 22], argTypes := #[23] }, type := 23, pos := "ref.go:394", after := #[{ on := 16, ground := Ground.data }, { on := 14, ground := Ground.chain }], guard := none }) rfl (fun K hK => ?_) AllReadyH.nil
        go_simp
        refine (CC5.out _ Z6).mono ?_
        rintro e y7 ⟨B5, D5, rfl, hv, b⟩
        have Z7 := TH.out _ _ Z6 b
        have Q0 := Aside0.mk (Kd.R_below Q0.out b)
        have Q1 := Aside0.mk (Kd.R_below Q1.out b)
        have Q2 := Aside0.mk (Kd.R_below Q2.out b)
        have Q3 := Aside0.mk (Kd.R_below Q3.out b)
        have Q4 := Aside0.mk (Kd.R_below Q4.out b)
        have Q5 := Aside0.mk (Kd.R_mono (Kd.R_bound (Kd.R_lower hv (Nat.le_refl _))) (fun k hk => (⟨hk.1, Nat.le_trans HB4.out hk.2.1⟩ : True ∧ b4 ≤ k)))
        have Q5 := Aside0.mk (Kd.R_lower Q5.out Z6.out.size)
        have HB4 : Aside0 (b4 ≤ y7.heap.size) := ⟨Nat.le_trans HB4.out b.size⟩
        have HG := Aside0.mk (blk_below HG.out b)
        clear b hv
        go_wp2_with fail
        refine hK.out _ _ ?_ (fun hHeld => ?_)
        · exact KEEP.out _ Z7
        clear hK K
        try simp only [Act.put, List.setIfInBounds_toArray, List.set_cons_zero, List.set_cons_succ]
        refine wpAnyH_ready (rs := [20]) (by kernel_rfl) (by simp) ?_
        refine AllReadyH.cons (o := { dst := some 26, op := Op.call { callee := Callee.value (Operand.func 24), args := #[Operand.tmp 25], argTypes := #[23] }, type := 23, pos := "ref.go:394", after := #[{ on := 19, ground := Ground.data }, { on := 17, ground := Ground.chain }], guard := none }) rfl (fun K hK => ?_) AllReadyH.nil
        go_simp
        refine (CC6.out _ Z7).mono ?_
        rintro e y8 ⟨B6, D6, rfl, hv, b⟩
        have Z8 := TH.out _ _ Z7 b
        have Q0 := Aside0.mk (Kd.R_below Q0.out b)
        have Q1 := Aside0.mk (Kd.R_below Q1.out b)
        have Q2 := Aside0.mk (Kd.R_below Q2.out b)
        have Q3 := Aside0.mk (Kd.R_below Q3.out b)
        have Q4 := Aside0.mk (Kd.R_below Q4.out b)
        have Q5 := Aside0.mk (Kd.R_below Q5.out b)
        have Q6 := Aside0.mk (Kd.R_mono (Kd.R_bound (Kd.R_lower hv (Nat.le_refl _))) (fun k hk => (⟨hk.1, Nat.le_trans HB4.out hk.2.1⟩ : True ∧ b4 ≤ k)))
        have Q6 := Aside0.mk (Kd.R_lower Q6.out Z7.out.size)
        have HB4 : Aside0 (b4 ≤ y8.heap.size) := ⟨Nat.le_trans HB4.out b.size⟩
        have HG := Aside0.mk (blk_below HG.out b)
        clear b hv
        go_wp2_with fail
        refine hK.out _ _ ?_ (fun hHeld => ?_)
        · exact KEEP.out _ Z8
        clear hK K
        try simp only [Act.put, List.setIfInBounds_toArray, List.set_cons_zero, List.set_cons_succ]
        refine wpAnyH_ready (rs := [23]) (by kernel_rfl) (by simp) ?_
        refine AllReadyH.cons (o := { dst := some 29, op := Op.call { callee := Callee.value (Operand.func 25), args := #[Operand.tmp 28], argTypes := #[25] }, type := 25, pos := "ref.go:394", after := #[{ on := 22, ground := Ground.data }, { on := 20, ground := Ground.chain }], guard := none }) rfl (fun K hK => ?_) AllReadyH.nil
        go_simp
        refine (CC8.out _ Z8).mono ?_
        rintro e y9 ⟨B8, D8, rfl, hv, b⟩
        have Z9 := TH.out _ _ Z8 b
        have Q0 := Aside0.mk (Kd.R_below Q0.out b)
        have Q1 := Aside0.mk (Kd.R_below Q1.out b)
        have Q2 := Aside0.mk (Kd.R_below Q2.out b)
        have Q3 := Aside0.mk (Kd.R_below Q3.out b)
        have Q4 := Aside0.mk (Kd.R_below Q4.out b)
        have Q5 := Aside0.mk (Kd.R_below Q5.out b)
        have Q6 := Aside0.mk (Kd.R_below Q6.out b)
        have Q8 := Aside0.mk (Kd.R_lower hv Z8.out.size)
        have HB4 : Aside0 (b4 ≤ y9.heap.size) := ⟨Nat.le_trans HB4.out b.size⟩
        have HG := Aside0.mk (blk_below HG.out b)
        clear b hv
        go_wp2_with fail
        refine hK.out _ _ ?_ (fun hHeld => ?_)
        · exact KEEP.out _ Z9
        clear hK K
        try simp only [Act.put, List.setIfInBounds_toArray, List.set_cons_zero, List.set_cons_succ]
        refine wpAnyH_take (i := 24) (oi := { dst := some 30, op := Op.build 27 #[(0, Operand.tmp 8), (1, Operand.tmp 11), (2, Operand.tmp 14), (3, Operand.tmp 17), (4, Operand.tmp 20), (5, Operand.tmp 23), (6, Operand.tmp 26), (8, Operand.tmp 29)], type := 27, pos := "ref.go:394", after := #[{ on := 2, ground := Ground.data }, { on := 5, ground := Ground.data }, { on := 8, ground := Ground.data }, { on := 11, ground := Ground.data }, { on := 14, ground := Ground.data }, { on := 17, ground := Ground.data }, { on := 20, ground := Ground.data }, { on := 23, ground := Ground.data }], guard := none }) (v := ?_) rfl (by kernel_rfl) (by kernel_rfl) (by kernel_rfl) (fun _ _ _ h => h) (Or.inl ⟨by rfl, ?_⟩) (by assumption) ?_
        rotate_left
        · first | (intro w hSw; (try dsimp only at hSw); go_simp; done) | (intro w hSw; (try dsimp only at hSw); go_simp; with_reducible rfl)
        try simp only [Act.put, List.setIfInBounds_toArray, List.set_cons_zero, List.set_cons_succ]
        refine wpAnyH_ready (rs := [26]) (by kernel_rfl) (by simp) ?_
        refine AllReadyH.cons (o := { dst := none, op := Op.store 27 (Operand.tmp 3) (Operand.tmp 30), type := 0, pos := "ref.go:394", after := #[{ on := 25, ground := Ground.data }, { on := 24, ground := Ground.data }, { on := 23, ground := Ground.chain }, { on := 0, ground := Ground.phase }, { on := 1, ground := Ground.phase }, { on := 2, ground := Ground.phase }, { on := 3, ground := Ground.phase }, { on := 4, ground := Ground.phase }, { on := 5, ground := Ground.phase }, { on := 6, ground := Ground.phase }, { on := 7, ground := Ground.phase }, { on := 8, ground := Ground.phase }, { on := 9, ground := Ground.phase }, { on := 10, ground := Ground.phase }, { on := 11, ground := Ground.phase }, { on := 12, ground := Ground.phase }, { on := 13, ground := Ground.phase }, { on := 14, ground := Ground.phase }, { on := 15, ground := Ground.phase }, { on := 16, ground := Ground.phase }, { on := 17, ground := Ground.phase }, { on := 18, ground := Ground.phase }, { on := 19, ground := Ground.phase }, { on := 20, ground := Ground.phase }, { on := 21, ground := Ground.phase }, { on := 22, ground := Ground.phase }, { on := 23, ground := Ground.phase }, { on := 24, ground := Ground.phase }, { on := 25, ground := Ground.phase }], guard := none }) rfl (fun K hK => ?_) AllReadyH.nil
        rw [if_pos (by rfl)]
        refine wp_store_row 27 _ _ rfl (y2.heap.size) (mdX ⟨B0, D0, B1, D1, B2, D2, B3, D3, B4, D4, B5, D5, B6, D6, none, 0, B8, D8⟩ m (.slice none 0 0)).toArray rfl rfl 27 _ HG.out (by kernel_rfl) (by rfl) (by simp [mdX]; exact ⟨rfl, rfl, rfl, rfl, rfl, rfl, rfl, rfl, rfl⟩) ?_
        have Q0 := Aside0.mk (Kd.R_bound (Kd.R_move (Kd.R_types Q0.out HG.out (by decide)) (fun k hk => setRow_other _ _ k (mdX ⟨B0, D0, B1, D1, B2, D2, B3, D3, B4, D4, B5, D5, B6, D6, none, 0, B8, D8⟩ m (.slice none 0 0)).toArray hk.2)))
        have Q1 := Aside0.mk (Kd.R_bound (Kd.R_move (Kd.R_types Q1.out HG.out (by decide)) (fun k hk => setRow_other _ _ k (mdX ⟨B0, D0, B1, D1, B2, D2, B3, D3, B4, D4, B5, D5, B6, D6, none, 0, B8, D8⟩ m (.slice none 0 0)).toArray hk.2)))
        have Q2 := Aside0.mk (Kd.R_bound (Kd.R_move (Kd.R_types Q2.out HG.out (by decide)) (fun k hk => setRow_other _ _ k (mdX ⟨B0, D0, B1, D1, B2, D2, B3, D3, B4, D4, B5, D5, B6, D6, none, 0, B8, D8⟩ m (.slice none 0 0)).toArray hk.2)))
        have Q3 := Aside0.mk (Kd.R_bound (Kd.R_move (Kd.R_types Q3.out HG.out (by decide)) (fun k hk => setRow_other _ _ k (mdX ⟨B0, D0, B1, D1, B2, D2, B3, D3, B4, D4, B5, D5, B6, D6, none, 0, B8, D8⟩ m (.slice none 0 0)).toArray hk.2)))
        have Q4 := Aside0.mk (Kd.R_bound (Kd.R_move (Kd.R_types Q4.out HG.out (by decide)) (fun k hk => setRow_other _ _ k (mdX ⟨B0, D0, B1, D1, B2, D2, B3, D3, B4, D4, B5, D5, B6, D6, none, 0, B8, D8⟩ m (.slice none 0 0)).toArray hk.2)))
        have Q5 := Aside0.mk (Kd.R_bound (Kd.R_move (Kd.R_types Q5.out HG.out (by decide)) (fun k hk => setRow_other _ _ k (mdX ⟨B0, D0, B1, D1, B2, D2, B3, D3, B4, D4, B5, D5, B6, D6, none, 0, B8, D8⟩ m (.slice none 0 0)).toArray hk.2)))
        have Q6 := Aside0.mk (Kd.R_bound (Kd.R_move (Kd.R_types Q6.out HG.out (by decide)) (fun k hk => setRow_other _ _ k (mdX ⟨B0, D0, B1, D1, B2, D2, B3, D3, B4, D4, B5, D5, B6, D6, none, 0, B8, D8⟩ m (.slice none 0 0)).toArray hk.2)))
        have Q8 := Aside0.mk (Kd.R_bound (Kd.R_move (Kd.R_types Q8.out HG.out (by decide)) (fun k hk => setRow_other _ _ k (mdX ⟨B0, D0, B1, D1, B2, D2, B3, D3, B4, D4, B5, D5, B6, D6, none, 0, B8, D8⟩ m (.slice none 0 0)).toArray hk.2)))
        have ZZ := Aside0.mk (below_setRow Z9.out hnb (mdX ⟨B0, D0, B1, D1, B2, D2, B3, D3, B4, D4, B5, D5, B6, D6, none, 0, B8, D8⟩ m (.slice none 0 0)).toArray)
        have HV := Aside0.mk (setRow_heap _ _ _ (mdX ⟨B0, D0, B1, D1, B2, D2, B3, D3, B4, D4, B5, D5, B6, D6, none, 0, B8, D8⟩ m (.slice none 0 0)).toArray _ _ HG.out)
        have HB4 : Aside0 (b4 ≤ (World.setRow y9 (y2.heap.size) (mdX ⟨B0, D0, B1, D1, B2, D2, B3, D3, B4, D4, B5, D5, B6, D6, none, 0, B8, D8⟩ m (.slice none 0 0)).toArray).heap.size) := ⟨by rw [setRow_size]; exact HB4.out⟩
        refine hK.out _ _ ?_ (fun hHeld => ?_)
        · exact KEEP.out _ ZZ
        clear hK K
        try simp only [Act.put, List.setIfInBounds_toArray, List.set_cons_zero, List.set_cons_succ]
        generalize World.setRow _ _ _ = w7 at *
        refine wpAnyH_done (by kernel_rfl) ?_ _
        refine NoPanic.normal ?_
        clear hHeld
        have hnbw : w0.heap.size ≤ y2.heap.size := hnb
        have hnblt : y2.heap.size < w7.heap.size := blk_lt HV.out
        have HMN : Aside0 (MdN w0.heap.size b4 w7.heap.size (y2.heap.size) w7 ⟨B0, D0, B1, D1, B2, D2, B3, D3, B4, D4, B5, D5, B6, D6, none, 0, B8, D8⟩ m) := ⟨⟨Kd.R_mono Q0.out (fun k hk => (⟨hk.1.2, hk.2.2.1⟩ : k ≠ y2.heap.size ∧ k < w7.heap.size)), Kd.R_mono Q1.out (fun k hk => (⟨hk.1.2, hk.2.2.1⟩ : k ≠ y2.heap.size ∧ k < w7.heap.size)), Kd.R_mono Q2.out (fun k hk => (⟨hk.1.2, hk.2.2.1⟩ : k ≠ y2.heap.size ∧ k < w7.heap.size)), Kd.R_mono Q3.out (fun k hk => (⟨⟨hk.1.2, hk.2.2.1⟩, hk.1.1.2⟩ : (k ≠ y2.heap.size ∧ k < w7.heap.size) ∧ k < b4)), Kd.R_mono Q4.out (fun k hk => (⟨⟨hk.1.2, hk.2.2.1⟩, hk.1.1.2⟩ : (k ≠ y2.heap.size ∧ k < w7.heap.size) ∧ b4 ≤ k)), Kd.R_mono Q5.out (fun k hk => (⟨⟨hk.1.2, hk.2.2.1⟩, hk.1.1.2⟩ : (k ≠ y2.heap.size ∧ k < w7.heap.size) ∧ b4 ≤ k)), Kd.R_mono Q6.out (fun k hk => (⟨⟨hk.1.2, hk.2.2.1⟩, hk.1.1.2⟩ : (k ≠ y2.heap.size ∧ k < w7.heap.size) ∧ b4 ≤ k)), Kd.R_mono Q8.out (fun k hk => (⟨hk.1.2, hk.2.2.1⟩ : k ≠ y2.heap.size ∧ k < w7.heap.size))⟩⟩
        clear Q0 Q1 Q2 Q3 Q4 Q5 Q6 Q8 hnb HG
        obtain ⟨rr, hrr⟩ : ∃ rr : MdR, (⟨B0, D0, B1, D1, B2, D2, B3, D3, B4, D4, B5, D5, B6, D6, none, 0, B8, D8⟩ : MdR) = rr := ⟨_, rfl⟩
        have HVV : Aside0 (w7.heap[y2.heap.size]? = some (.cells (mdX rr m (.slice none 0 0)).toArray 27 (0, 0))) := ⟨by rw [← hrr]; exact HV.out⟩
        rw [hrr] at HMN
        clear hrr HV
        generalize (y2.heap.size) = nb at HVV HMN hnbw hnblt ⊢
    case' wb2 =>
      refine AllReadyH.cons (o := { dst := some 3, op := Op.alloc 27, type := 0, pos := "ref.go:394", after := #[], guard := none }) rfl (fun K hK => ?_) AllReadyH.nil
      go_simp
      have Z2 := TA.out _ (.cells #[.slice none 0 0, .slice none 0 0, .slice none 0 0, .slice none 0 0, .slice none 0 0, .slice none 0 0, .slice none 0 0, .slice none 0 0, .slice none 0 0] 27) Z1
      have HG : Aside0 ((y1.alloc (.cells #[.slice none 0 0, .slice none 0 0, .slice none 0 0, .slice none 0 0, .slice none 0 0, .slice none 0 0, .slice none 0 0, .slice none 0 0, .slice none 0 0] 27)).heap[y1.heap.size]? = some (.cells #[.slice none 0 0, .slice none 0 0, .slice none 0 0, .slice none 0 0, .slice none 0 0, .slice none 0 0, .slice none 0 0, .slice none 0 0, .slice none 0 0] 27 (0, 0))) := ⟨blk_new y1 _⟩
      have hnb : w0.heap.size ≤ y1.heap.size := Z1.out.size
      have Q0 := Aside0.mk (Kd.R_alloc Q0.out (.cells #[.slice none 0 0, .slice none 0 0, .slice none 0 0, .slice none 0 0, .slice none 0 0, .slice none 0 0, .slice none 0 0, .slice none 0 0, .slice none 0 0] 27))
      refine hK.out _ _ ?_ (fun hHeld => ?_)
      · exact KEEP.out _ Z2
      clear hK K
      try simp only [Act.put, List.setIfInBounds_toArray, List.set_cons_zero, List.set_cons_succ]
      refine wpAnyH_ready (rs := [5]) (by kernel_rfl) (by simp) ?_
      refine AllReadyH.cons (o := { dst := some 11, op := Op.call { callee := Callee.value (Operand.func 23), args := #[Operand.tmp 10], argTypes := #[22] }, type := 22, pos := "ref.go:394", after := #[{ on := 4, ground := Ground.data }, { on := 2, ground := Ground.chain }], guard := none }) rfl (fun K hK => ?_) AllReadyH.nil
      go_simp
      refine (CC1.out _ Z2).mono ?_
      rintro e y3 ⟨B1, D1, rfl, hv, b⟩
      have Z3 := TH.out _ _ Z2 b
      have Q0 := Aside0.mk (Kd.R_below Q0.out b)
      have Q1 := Aside0.mk (Kd.R_lower hv Z2.out.size)
      have HG := Aside0.mk (blk_below HG.out b)
      clear b hv
      go_wp2_with fail
      refine hK.out _ _ ?_ (fun hHeld => ?_)
      · exact KEEP.out _ Z3
      clear hK K
      try simp only [Act.put, List.setIfInBounds_toArray, List.set_cons_zero, List.set_cons_succ]
      refine wpAnyH_ready (rs := [8]) (by kernel_rfl) (by simp) ?_
      refine AllReadyH.cons (o := { dst := some 14, op := Op.call { callee := Callee.value (Operand.func 23), args := #[Operand.tmp 13], argTypes := #[22] }, type := 22, pos := "ref.go:394", after := #[{ on := 7, ground := Ground.data }, { on := 5, ground := Ground.chain }], guard := none }) rfl (fun K hK => ?_) AllReadyH.nil
      go_simp
      refine (CC2.out _ Z3).mono ?_
      rintro e y4 ⟨B2, D2, rfl, hv, b⟩
      have Z4 := TH.out _ _ Z3 b
      have Q0 := Aside0.mk (Kd.R_below Q0.out b)
      have Q1 := Aside0.mk (Kd.R_below Q1.out b)
      have Q2 := Aside0.mk (Kd.R_lower hv Z3.out.size)
      have HG := Aside0.mk (blk_below HG.out b)
      clear b hv
      go_wp2_with fail
      refine hK.out _ _ ?_ (fun hHeld => ?_)
      · exact KEEP.out _ Z4
      clear hK K
      try simp only [Act.put, List.setIfInBounds_toArray, List.set_cons_zero, List.set_cons_succ]
      refine wpAnyH_ready (rs := [11]) (by kernel_rfl) (by simp) ?_
      refine AllReadyH.cons (o := { dst := some 17, op := Op.call { callee := Callee.value (Operand.func 24), args := #[Operand.tmp 16], argTypes := #[23] }, type := 23, pos := "ref.go:394", after := #[{ on := 10, ground := Ground.data }, { on := 8, ground := Ground.chain }], guard := none }) rfl (fun K hK => ?_) AllReadyH.nil
      go_simp
      refine (CC3.out _ Z4).mono ?_
      rintro e y5 ⟨B3, D3, rfl, hv, b⟩
      have Z5 := TH.out _ _ Z4 b
      have Q0 := Aside0.mk (Kd.R_below Q0.out b)
      have Q1 := Aside0.mk (Kd.R_below Q1.out b)
      have Q2 := Aside0.mk (Kd.R_below Q2.out b)
      have Q3 := Aside0.mk (Kd.R_lower hv Z4.out.size)
      obtain ⟨b4, hb4⟩ : ∃ b4, b4 = y5.heap.size := ⟨_, rfl⟩
      have HB4 : Aside0 (b4 ≤ y5.heap.size) := ⟨Nat.le_of_eq hb4⟩
      have Q3 := Aside0.mk (Kd.R_mono (Kd.R_bound Q3.out) (fun k hk => (⟨hk.1, by rw [hb4]; exact hk.2.2.1⟩ : True ∧ k < b4)))
      clear hb4
      have HG := Aside0.mk (blk_below HG.out b)
      clear b hv
      go_wp2_with fail
      refine hK.out _ _ ?_ (fun hHeld => ?_)
      · exact KEEP.out _ Z5
      clear hK K
      try simp only [Act.put, List.setIfInBounds_toArray, List.set_cons_zero, List.set_cons_succ]
      refine wpAnyH_ready (rs := [14]) (by kernel_rfl) (by simp) ?_
      refine AllReadyH.cons (o := { dst := some 20, op := Op.call { callee := Callee.value (Operand.func 24), args := #[Operand.tmp 19], argTypes := #[23] }, type := 23, pos := "ref.go:394", after := #[{ on := 13, ground := Ground.data }, { on := 11, ground := Ground.chain }], guard := none }) rfl (fun K hK => ?_) AllReadyH.nil
      go_simp
      refine (CC4.out _ Z5).mono ?_
      rintro e y6 ⟨B4, D4, rfl, hv, b⟩
      have Z6 := TH.out _ _ Z5 b
      have Q0 := Aside0.mk (Kd.R_below Q0.out b)
      have Q1 := Aside0.mk (Kd.R_below Q1.out b)
      have Q2 := Aside0.mk (Kd.R_below Q2.out b)
      have Q3 := Aside0.mk (Kd.R_below Q3.out b)
      have Q4 := Aside0.mk (Kd.R_mono (Kd.R_bound (Kd.R_lower hv (Nat.le_refl _))) (fun k hk => (⟨hk.1, Nat.le_trans HB4.out hk.2.1⟩ : True ∧ b4 ≤ k)))
      have Q4 := Aside0.mk (Kd.R_lower Q4.out Z5.out.size)
      have HB4 : Aside0 (b4 ≤ y6.heap.size) := ⟨Nat.le_trans HB4.out b.size⟩
      have HG := Aside0.mk (blk_below HG.out b)
      clear b hv
      go_wp2_with fail
      refine hK.out _ _ ?_ (fun hHeld => ?_)
      · exact KEEP.out _ Z6
      clear hK K
      try simp only [Act.put, List.setIfInBounds_toArray, List.set_cons_zero, List.set_cons_succ]
      refine wpAnyH_ready (rs := [17]) (by kernel_rfl) (by simp) ?_
      refine AllReadyH.cons (o := { dst := some 23, op := Op.call { callee := Callee.value (Operand.func 24), args := #[Operand.tmp 22], argTypes := #[23] }, type := 23, pos := "ref.go:394", after := #[{ on := 16, ground := Ground.data }, { on := 14, ground := Ground.chain }], guard := none }) rfl (fun K hK => ?_) AllReadyH.nil
      go_simp
      refine (CC5.out _ Z6).mono ?_
      rintro e y7 ⟨B5, D5, rfl, hv, b⟩
      have Z7 := TH.out _ _ Z6 b
      have Q0 := Aside0.mk (Kd.R_below Q0.out b)
      have Q1 := Aside0.mk (Kd.R_below Q1.out b)
      have Q2 := Aside0.mk (Kd.R_below Q2.out b)
      have Q3 := Aside0.mk (Kd.R_below Q3.out b)
      have Q4 := Aside0.mk (Kd.R_below Q4.out b)
      have Q5 := Aside0.mk (Kd.R_mono (Kd.R_bound (Kd.R_lower hv (Nat.le_refl _))) (fun k hk => (⟨hk.1, Nat.le_trans HB4.out hk.2.1⟩ : True ∧ b4 ≤ k)))
      have Q5 := Aside0.mk (Kd.R_lower Q5.out Z6.out.size)
      have HB4 : Aside0 (b4 ≤ y7.heap.size) := ⟨Nat.le_trans HB4.out b.size⟩
      have HG := Aside0.mk (blk_below HG.out b)
      clear b hv
      go_wp2_with fail
      refine hK.out _ _ ?_ (fun hHeld => ?_)
      · exact KEEP.out _ Z7
      clear hK K
      try simp only [Act.put, List.setIfInBounds_toArray, List.set_cons_zero, List.set_cons_succ]
      refine wpAnyH_ready (rs := [20]) (by kernel_rfl) (by simp) ?_
      refine AllReadyH.cons (o := { dst := some 26, op := Op.call { callee := Callee.value (Operand.func 24), args := #[Operand.tmp 25], argTypes := #[23] }, type := 23, pos := "ref.go:394", after := #[{ on := 19, ground := Ground.data }, { on := 17, ground := Ground.chain }], guard := none }) rfl (fun K hK => ?_) AllReadyH.nil
      go_simp
      refine (CC6.out _ Z7).mono ?_
      rintro e y8 ⟨B6, D6, rfl, hv, b⟩
      have Z8 := TH.out _ _ Z7 b
      have Q0 := Aside0.mk (Kd.R_below Q0.out b)
      have Q1 := Aside0.mk (Kd.R_below Q1.out b)
      have Q2 := Aside0.mk (Kd.R_below Q2.out b)
      have Q3 := Aside0.mk (Kd.R_below Q3.out b)
      have Q4 := Aside0.mk (Kd.R_below Q4.out b)
      have Q5 := Aside0.mk (Kd.R_below Q5.out b)
      have Q6 := Aside0.mk (Kd.R_mono (Kd.R_bound (Kd.R_lower hv (Nat.le_refl _))) (fun k hk => (⟨hk.1, Nat.le_trans HB4.out hk.2.1⟩ : True ∧ b4 ≤ k)))
      have Q6 := Aside0.mk (Kd.R_lower Q6.out Z7.out.size)
      have HB4 : Aside0 (b4 ≤ y8.heap.size) := ⟨Nat.le_trans HB4.out b.size⟩
      have HG := Aside0.mk (blk_below HG.out b)
      clear b hv
      go_wp2_with fail
      refine hK.out _ _ ?_ (fun hHeld => ?_)
      · exact KEEP.out _ Z8
      clear hK K
      try simp only [Act.put, List.setIfInBounds_toArray, List.set_cons_zero, List.set_cons_succ]
      refine wpAnyH_ready (rs := [23]) (by kernel_rfl) (by simp) ?_
      refine AllReadyH.cons (o := { dst := some 29, op := Op.call { callee := Callee.value (Operand.func 25), args := #[Operand.tmp 28], argTypes := #[25] }, type := 25, pos := "ref.go:394", after := #[{ on := 22, ground := Ground.data }, { on := 20, ground := Ground.chain }], guard := none }) rfl (fun K hK => ?_) AllReadyH.nil
      go_simp
      refine (CC8.out _ Z8).mono ?_
      rintro e y9 ⟨B8, D8, rfl, hv, b⟩
      have Z9 := TH.out _ _ Z8 b
      have Q0 := Aside0.mk (Kd.R_below Q0.out b)
      have Q1 := Aside0.mk (Kd.R_below Q1.out b)
      have Q2 := Aside0.mk (Kd.R_below Q2.out b)
      have Q3 := Aside0.mk (Kd.R_below Q3.out b)
      have Q4 := Aside0.mk (Kd.R_below Q4.out b)
      have Q5 := Aside0.mk (Kd.R_below Q5.out b)
      have Q6 := Aside0.mk (Kd.R_below Q6.out b)
      have Q8 := Aside0.mk (Kd.R_lower hv Z8.out.size)
      have HB4 : Aside0 (b4 ≤ y9.heap.size) := ⟨Nat.le_trans HB4.out b.size⟩
      have HG := Aside0.mk (blk_below HG.out b)
      clear b hv
      go_wp2_with fail
      refine hK.out _ _ ?_ (fun hHeld => ?_)
      · exact KEEP.out _ Z9
      clear hK K
      try simp only [Act.put, List.setIfInBounds_toArray, List.set_cons_zero, List.set_cons_succ]
      refine wpAnyH_take (i := 24) (oi := { dst := some 30, op := Op.build 27 #[(0, Operand.tmp 8), (1, Operand.tmp 11), (2, Operand.tmp 14), (3, Operand.tmp 17), (4, Operand.tmp 20), (5, Operand.tmp 23), (6, Operand.tmp 26), (8, Operand.tmp 29)], type := 27, pos := "ref.go:394", after := #[{ on := 2, ground := Ground.data }, { on := 5, ground := Ground.data }, { on := 8, ground := Ground.data }, { on := 11, ground := Ground.data }, { on := 14, ground := Ground.data }, { on := 17, ground := Ground.data }, { on := 20, ground := Ground.data }, { on := 23, ground := Ground.data }], guard := none }) (v := ?_) rfl (by kernel_rfl) (by kernel_rfl) (by kernel_rfl) (fun _ _ _ h => h) (Or.inl ⟨by rfl, ?_⟩) (by assumption) ?_
      rotate_left
      · first | (intro w hSw; (try dsimp only at hSw); go_simp; done) | (intro w hSw; (try dsimp only at hSw); go_simp; with_reducible rfl)
      try simp only [Act.put, List.setIfInBounds_toArray, List.set_cons_zero, List.set_cons_succ]
      refine wpAnyH_ready (rs := [26]) (by kernel_rfl) (by simp) ?_
      refine AllReadyH.cons (o := { dst := none, op := Op.store 27 (Operand.tmp 3) (Operand.tmp 30), type := 0, pos := "ref.go:394", after := #[{ on := 25, ground := Ground.data }, { on := 24, ground := Ground.data }, { on := 23, ground := Ground.chain }, { on := 0, ground := Ground.phase }, { on := 1, ground := Ground.phase }, { on := 2, ground := Ground.phase }, { on := 3, ground := Ground.phase }, { on := 4, ground := Ground.phase }, { on := 5, ground := Ground.phase }, { on := 6, ground := Ground.phase }, { on := 7, ground := Ground.phase }, { on := 8, ground := Ground.phase }, { on := 9, ground := Ground.phase }, { on := 10, ground := Ground.phase }, { on := 11, ground := Ground.phase }, { on := 12, ground := Ground.phase }, { on := 13, ground := Ground.phase }, { on := 14, ground := Ground.phase }, { on := 15, ground := Ground.phase }, { on := 16, ground := Ground.phase }, { on := 17, ground := Ground.phase }, { on := 18, ground := Ground.phase }, { on := 19, ground := Ground.phase }, { on := 20, ground := Ground.phase }, { on := 21, ground := Ground.phase }, { on := 22, ground := Ground.phase }, { on := 23, ground := Ground.phase }, { on := 24, ground := Ground.phase }, { on := 25, ground := Ground.phase }], guard := none }) rfl (fun K hK => ?_) AllReadyH.nil
      rw [if_pos (by rfl)]
      refine wp_store_row 27 _ _ rfl (y1.heap.size) (mdX ⟨B0, D0, B1, D1, B2, D2, B3, D3, B4, D4, B5, D5, B6, D6, none, 0, B8, D8⟩ m (.slice none 0 0)).toArray rfl rfl 27 _ HG.out (by kernel_rfl) (by rfl) (by simp [mdX]; exact ⟨rfl, rfl, rfl, rfl, rfl, rfl, rfl, rfl, rfl⟩) ?_
      have Q0 := Aside0.mk (Kd.R_bound (Kd.R_move (Kd.R_types Q0.out HG.out (by decide)) (fun k hk => setRow_other _ _ k (mdX ⟨B0, D0, B1, D1, B2, D2, B3, D3, B4, D4, B5, D5, B6, D6, none, 0, B8, D8⟩ m (.slice none 0 0)).toArray hk.2)))
      have Q1 := Aside0.mk (Kd.R_bound (Kd.R_move (Kd.R_types Q1.out HG.out (by decide)) (fun k hk => setRow_other _ _ k (mdX ⟨B0, D0, B1, D1, B2, D2, B3, D3, B4, D4, B5, D5, B6, D6, none, 0, B8, D8⟩ m (.slice none 0 0)).toArray hk.2)))
      have Q2 := Aside0.mk (Kd.R_bound (Kd.R_move (Kd.R_types Q2.out HG.out (by decide)) (fun k hk => setRow_other _ _ k (mdX ⟨B0, D0, B1, D1, B2, D2, B3, D3, B4, D4, B5, D5, B6, D6, none, 0, B8, D8⟩ m (.slice none 0 0)).toArray hk.2)))
      have Q3 := Aside0.mk (Kd.R_bound (Kd.R_move (Kd.R_types Q3.out HG.out (by decide)) (fun k hk => setRow_other _ _ k (mdX ⟨B0, D0, B1, D1, B2, D2, B3, D3, B4, D4, B5, D5, B6, D6, none, 0, B8, D8⟩ m (.slice none 0 0)).toArray hk.2)))
      have Q4 := Aside0.mk (Kd.R_bound (Kd.R_move (Kd.R_types Q4.out HG.out (by decide)) (fun k hk => setRow_other _ _ k (mdX ⟨B0, D0, B1, D1, B2, D2, B3, D3, B4, D4, B5, D5, B6, D6, none, 0, B8, D8⟩ m (.slice none 0 0)).toArray hk.2)))
      have Q5 := Aside0.mk (Kd.R_bound (Kd.R_move (Kd.R_types Q5.out HG.out (by decide)) (fun k hk => setRow_other _ _ k (mdX ⟨B0, D0, B1, D1, B2, D2, B3, D3, B4, D4, B5, D5, B6, D6, none, 0, B8, D8⟩ m (.slice none 0 0)).toArray hk.2)))
      have Q6 := Aside0.mk (Kd.R_bound (Kd.R_move (Kd.R_types Q6.out HG.out (by decide)) (fun k hk => setRow_other _ _ k (mdX ⟨B0, D0, B1, D1, B2, D2, B3, D3, B4, D4, B5, D5, B6, D6, none, 0, B8, D8⟩ m (.slice none 0 0)).toArray hk.2)))
      have Q8 := Aside0.mk (Kd.R_bound (Kd.R_move (Kd.R_types Q8.out HG.out (by decide)) (fun k hk => setRow_other _ _ k (mdX ⟨B0, D0, B1, D1, B2, D2, B3, D3, B4, D4, B5, D5, B6, D6, none, 0, B8, D8⟩ m (.slice none 0 0)).toArray hk.2)))
      have ZZ := Aside0.mk (below_setRow Z9.out hnb (mdX ⟨B0, D0, B1, D1, B2, D2, B3, D3, B4, D4, B5, D5, B6, D6, none, 0, B8, D8⟩ m (.slice none 0 0)).toArray)
      have HV := Aside0.mk (setRow_heap _ _ _ (mdX ⟨B0, D0, B1, D1, B2, D2, B3, D3, B4, D4, B5, D5, B6, D6, none, 0, B8, D8⟩ m (.slice none 0 0)).toArray _ _ HG.out)
      have HB4 : Aside0 (b4 ≤ (World.setRow y9 (y1.heap.size) (mdX ⟨B0, D0, B1, D1, B2, D2, B3, D3, B4, D4, B5, D5, B6, D6, none, 0, B8, D8⟩ m (.slice none 0 0)).toArray).heap.size) := ⟨by rw [setRow_size]; exact HB4.out⟩
      refine hK.out _ _ ?_ (fun hHeld => ?_)
      · exact KEEP.out _ ZZ
      clear hK K
      try simp only [Act.put, List.setIfInBounds_toArray, List.set_cons_zero, List.set_cons_succ]
      generalize World.setRow _ _ _ = w7 at *
      refine wpAnyH_done (by kernel_rfl) ?_ _
      refine NoPanic.normal ?_
      clear hHeld
      have hnbw : w0.heap.size ≤ y1.heap.size := hnb
      have hnblt : y1.heap.size < w7.heap.size := blk_lt HV.out
      have HMN : Aside0 (MdN w0.heap.size b4 w7.heap.size (y1.heap.size) w7 ⟨B0, D0, B1, D1, B2, D2, B3, D3, B4, D4, B5, D5, B6, D6, none, 0, B8, D8⟩ m) := ⟨⟨Kd.R_mono Q0.out (fun k hk => (⟨hk.1.2, hk.2.2.1⟩ : k ≠ y1.heap.size ∧ k < w7.heap.size)), Kd.R_mono Q1.out (fun k hk => (⟨hk.1.2, hk.2.2.1⟩ : k ≠ y1.heap.size ∧ k < w7.heap.size)), Kd.R_mono Q2.out (fun k hk => (⟨hk.1.2, hk.2.2.1⟩ : k ≠ y1.heap.size ∧ k < w7.heap.size)), Kd.R_mono Q3.out (fun k hk => (⟨⟨hk.1.2, hk.2.2.1⟩, hk.1.1.2⟩ : (k ≠ y1.heap.size ∧ k < w7.heap.size) ∧ k < b4)), Kd.R_mono Q4.out (fun k hk => (⟨⟨hk.1.2, hk.2.2.1⟩, hk.1.1.2⟩ : (k ≠ y1.heap.size ∧ k < w7.heap.size) ∧ b4 ≤ k)), Kd.R_mono Q5.out (fun k hk => (⟨⟨hk.1.2, hk.2.2.1⟩, hk.1.1.2⟩ : (k ≠ y1.heap.size ∧ k < w7.heap.size) ∧ b4 ≤ k)), Kd.R_mono Q6.out (fun k hk => (⟨⟨hk.1.2, hk.2.2.1⟩, hk.1.1.2⟩ : (k ≠ y1.heap.size ∧ k < w7.heap.size) ∧ b4 ≤ k)), Kd.R_mono Q8.out (fun k hk => (⟨hk.1.2, hk.2.2.1⟩ : k ≠ y1.heap.size ∧ k < w7.heap.size))⟩⟩
      clear Q0 Q1 Q2 Q3 Q4 Q5 Q6 Q8 hnb HG
      obtain ⟨rr, hrr⟩ : ∃ rr : MdR, (⟨B0, D0, B1, D1, B2, D2, B3, D3, B4, D4, B5, D5, B6, D6, none, 0, B8, D8⟩ : MdR) = rr := ⟨_, rfl⟩
      have HVV : Aside0 (w7.heap[y1.heap.size]? = some (.cells (mdX rr m (.slice none 0 0)).toArray 27 (0, 0))) := ⟨by rw [← hrr]; exact HV.out⟩
      rw [hrr] at HMN
      clear hrr HV
      generalize (y1.heap.size) = nb at HVV HMN hnbw hnblt ⊢
  case' wb1 =>
    refine AllReadyH.cons (o := { dst := some 3, op := Op.alloc 27, type := 0, pos := "ref.go:394", after := #[], guard := none }) rfl (fun K hK => ?_) AllReadyH.nil
    go_simp
    have Z1 : Aside0 (Below w0.heap.size w0 (w0.alloc (.cells #[.slice none 0 0, .slice none 0 0, .slice none 0 0, .slice none 0 0, .slice none 0 0, .slice none 0 0, .slice none 0 0, .slice none 0 0, .slice none 0 0] 27)).drew) := ⟨(TA.out _ (.cells #[.slice none 0 0, .slice none 0 0, .slice none 0 0, .slice none 0 0, .slice none 0 0, .slice none 0 0, .slice none 0 0, .slice none 0 0, .slice none 0 0] 27) ⟨Below.refl w0.heap.size w0⟩).out.drew⟩
    have HG : Aside0 ((w0.alloc (.cells #[.slice none 0 0, .slice none 0 0, .slice none 0 0, .slice none 0 0, .slice none 0 0, .slice none 0 0, .slice none 0 0, .slice none 0 0, .slice none 0 0] 27)).drew.heap[w0.heap.size]? = some (.cells #[.slice none 0 0, .slice none 0 0, .slice none 0 0, .slice none 0 0, .slice none 0 0, .slice none 0 0, .slice none 0 0, .slice none 0 0, .slice none 0 0] 27 (0, 0))) := ⟨blk_new w0 _⟩
    have hnb : w0.heap.size ≤ w0.heap.size := Nat.le_refl _
    refine hK.out _ _ ?_ (fun hHeld => ?_)
    · exact KEEP.out _ Z1
    clear hK K
    try simp only [Act.put, List.setIfInBounds_toArray, List.set_cons_zero, List.set_cons_succ]
    refine wpAnyH_ready (rs := [2]) (by kernel_rfl) (by simp) ?_
    refine AllReadyH.cons (o := { dst := some 8, op := Op.call { callee := Callee.value (Operand.func 23), args := #[Operand.tmp 7], argTypes := #[22] }, type := 22, pos := "ref.go:394", after := #[{ on := 1, ground := Ground.data }], guard := none }) rfl (fun K hK => ?_) AllReadyH.nil
    go_simp
    refine (CC0.out _ Z1).mono ?_
    rintro e y2 ⟨B0, D0, rfl, hv, b⟩
    have Z2 := TH.out _ _ Z1 b
    have Q0 := Aside0.mk (Kd.R_lower hv Z1.out.size)
    have HG := Aside0.mk (blk_below HG.out b)
    clear b hv
    go_wp2_with fail
    refine hK.out _ _ ?_ (fun hHeld => ?_)
    · exact KEEP.out _ Z2
    clear hK K
    try simp only [Act.put, List.setIfInBounds_toArray, List.set_cons_zero, List.set_cons_succ]
    refine wpAnyH_ready (rs := [5]) (by kernel_rfl) (by simp) ?_
    refine AllReadyH.cons (o := { dst := some 11, op := Op.call { callee := Callee.value (Operand.func 23), args := #[Operand.tmp 10], argTypes := #[22] }, type := 22, pos := "ref.go:394", after := #[{ on := 4, ground := Ground.data }, { on := 2, ground := Ground.chain }], guard := none }) rfl (fun K hK => ?_) AllReadyH.nil
    go_simp
    refine (CC1.out _ Z2).mono ?_
    rintro e y3 ⟨B1, D1, rfl, hv, b⟩
    have Z3 := TH.out _ _ Z2 b
    have Q0 := Aside0.mk (Kd.R_below Q0.out b)
    have Q1 := Aside0.mk (Kd.R_lower hv Z2.out.size)
    have HG := Aside0.mk (blk_below HG.out b)
    clear b hv
    go_wp2_with fail
    refine hK.out _ _ ?_ (fun hHeld => ?_)
    · exact KEEP.out _ Z3
    clear hK K
    try simp only [Act.put, List.setIfInBounds_toArray, List.set_cons_zero, List.set_cons_succ]
    refine wpAnyH_ready (rs := [8]) (by kernel_rfl) (by simp) ?_
    refine AllReadyH.cons (o := { dst := some 14, op := Op.call { callee := Callee.value (Operand.func 23), args := #[Operand.tmp 13], argTypes := #[22] }, type := 22, pos := "ref.go:394", after := #[{ on := 7, ground := Ground.data }, { on := 5, ground := Ground.chain }], guard := none }) rfl (fun K hK => ?_) AllReadyH.nil
    go_simp
    refine (CC2.out _ Z3).mono ?_
    rintro e y4 ⟨B2, D2, rfl, hv, b⟩
    have Z4 := TH.out _ _ Z3 b
    have Q0 := Aside0.mk (Kd.R_below Q0.out b)
    have Q1 := Aside0.mk (Kd.R_below Q1.out b)
    have Q2 := Aside0.mk (Kd.R_lower hv Z3.out.size)
    have HG := Aside0.mk (blk_below HG.out b)
    clear b hv
    go_wp2_with fail
    refine hK.out _ _ ?_ (fun hHeld => ?_)
    · exact KEEP.out _ Z4
    clear hK K
    try simp only [Act.put, List.setIfInBounds_toArray, List.set_cons_zero, List.set_cons_succ]
    refine wpAnyH_ready (rs := [11]) (by kernel_rfl) (by simp) ?_
    refine AllReadyH.cons (o := { dst := some 17, op := Op.call { callee := Callee.value (Operand.func 24), args := #[Operand.tmp 16], argTypes := #[23] }, type := 23, pos := "ref.go:394", after := #[{ on := 10, ground := Ground.data }, { on := 8, ground := Ground.chain }], guard := none }) rfl (fun K hK => ?_) AllReadyH.nil
    go_simp
    refine (CC3.out _ Z4).mono ?_
    rintro e y5 ⟨B3, D3, rfl, hv, b⟩
    have Z5 := TH.out _ _ Z4 b
    have Q0 := Aside0.mk (Kd.R_below Q0.out b)
    have Q1 := Aside0.mk (Kd.R_below Q1.out b)
    have Q2 := Aside0.mk (Kd.R_below Q2.out b)
    have Q3 := Aside0.mk (Kd.R_lower hv Z4.out.size)
    obtain ⟨b4, hb4⟩ : ∃ b4, b4 = y5.heap.size := ⟨_, rfl⟩
    have HB4 : Aside0 (b4 ≤ y5.heap.size) := ⟨Nat.le_of_eq hb4⟩
    have Q3 := Aside0.mk (Kd.R_mono (Kd.R_bound Q3.out) (fun k hk => (⟨hk.1, by rw [hb4]; exact hk.2.2.1⟩ : True ∧ k < b4)))
    clear hb4
    have HG := Aside0.mk (blk_below HG.out b)
    clear b hv
    go_wp2_with fail
    refine hK.out _ _ ?_ (fun hHeld => ?_)
    · exact KEEP.out _ Z5
    clear hK K
    try simp only [Act.put, List.setIfInBounds_toArray, List.set_cons_zero, List.set_cons_succ]
    refine wpAnyH_ready (rs := [14]) (by kernel_rfl) (by simp) ?_
    refine AllReadyH.cons (o := { dst := some 20, op := Op.call { callee := Callee.value (Operand.func 24), args := #[Operand.tmp 19], argTypes := #[23] }, type := 23, pos := "ref.go:394", after := #[{ on := 13, ground := Ground.data }, { on := 11, ground := Ground.chain }], guard := none }) rfl (fun K hK => ?_) AllReadyH.nil
    go_simp
    refine (CC4.out _ Z5).mono ?_
    rintro e y6 ⟨B4, D4, rfl, hv, b⟩
    have Z6 := TH.out _ _ Z5 b
    have Q0 := Aside0.mk (Kd.R_below Q0.out b)
    have Q1 := Aside0.mk (Kd.R_below Q1.out b)
    have Q2 := Aside0.mk (Kd.R_below Q2.out b)
    have Q3 := Aside0.mk (Kd.R_below Q3.out b)
    have Q4 := Aside0.mk (Kd.R_mono (Kd.R_bound (Kd.R_lower hv (Nat.le_refl _))) (fun k hk => (⟨hk.1, Nat.le_trans HB4.out hk.2.1⟩ : True ∧ b4 ≤ k)))
    have Q4 := Aside0.mk (Kd.R_lower Q4.out Z5.out.size)
    have HB4 : Aside0 (b4 ≤ y6.heap.size) := ⟨Nat.le_trans HB4.out b.size⟩
    have HG := Aside0.mk (blk_below HG.out b)
    clear b hv
    go_wp2_with fail
    refine hK.out _ _ ?_ (fun hHeld => ?_)
    · exact KEEP.out _ Z6
    clear hK K
    try simp only [Act.put, List.setIfInBounds_toArray, List.set_cons_zero, List.set_cons_succ]
    refine wpAnyH_ready (rs := [17]) (by kernel_rfl) (by simp) ?_
    refine AllReadyH.cons (o := { dst := some 23, op := Op.call { callee := Callee.value (Operand.func 24), args := #[Operand.tmp 22], argTypes := #[23] }, type := 23, pos := "ref.go:394", after := #[{ on := 16, ground := Ground.data }, { on := 14, ground := Ground.chain }], guard := none }) rfl (fun K hK => ?_) AllReadyH.nil
    go_simp
    refine (CC5.out _ Z6).mono ?_
    rintro e y7 ⟨B5, D5, rfl, hv, b⟩
    have Z7 := TH.out _ _ Z6 b
    have Q0 := Aside0.mk (Kd.R_below Q0.out b)
    have Q1 := Aside0.mk (Kd.R_below Q1.out b)
    have Q2 := Aside0.mk (Kd.R_below Q2.out b)
    have Q3 := Aside0.mk (Kd.R_below Q3.out b)
    have Q4 := Aside0.mk (Kd.R_below Q4.out b)
    have Q5 := Aside0.mk (Kd.R_mono (Kd.R_bound (Kd.R_lower hv (Nat.le_refl _))) (fun k hk => (⟨hk.1, Nat.le_trans HB4.out hk.2.1⟩ : True ∧ b4 ≤ k)))
    have Q5 := Aside0.mk (Kd.R_lower Q5.out Z6.out.size)
    have HB4 : Aside0 (b4 ≤ y7.heap.size) := ⟨Nat.le_trans HB4.out b.size⟩
    have HG := Aside0.mk (blk_below HG.out b)
    clear b hv
    go_wp2_with fail
    refine hK.out _ _ ?_ (fun hHeld => ?_)
    · exact KEEP.out _ Z7
    clear hK K
    try simp only [Act.put, List.setIfInBounds_toArray, List.set_cons_zero, List.set_cons_succ]
    refine wpAnyH_ready (rs := [20]) (by kernel_rfl) (by simp) ?_
    refine AllReadyH.cons (o := { dst := some 26, op := Op.call { callee := Callee.value (Operand.func 24), args := #[Operand.tmp 25], argTypes := #[23] }, type := 23, pos := "ref.go:394", after := #[{ on := 19, ground := Ground.data }, { on := 17, ground := Ground.chain }], guard := none }) rfl (fun K hK => ?_) AllReadyH.nil
    go_simp
    refine (CC6.out _ Z7).mono ?_
    rintro e y8 ⟨B6, D6, rfl, hv, b⟩
    have Z8 := TH.out _ _ Z7 b
    have Q0 := Aside0.mk (Kd.R_below Q0.out b)
    have Q1 := Aside0.mk (Kd.R_below Q1.out b)
    have Q2 := Aside0.mk (Kd.R_below Q2.out b)
    have Q3 := Aside0.mk (Kd.R_below Q3.out b)
    have Q4 := Aside0.mk (Kd.R_below Q4.out b)
    have Q5 := Aside0.mk (Kd.R_below Q5.out b)
    have Q6 := Aside0.mk (Kd.R_mono (Kd.R_bound (Kd.R_lower hv (Nat.le_refl _))) (fun k hk => (⟨hk.1, Nat.le_trans HB4.out hk.2.1⟩ : True ∧ b4 ≤ k)))
    have Q6 := Aside0.mk (Kd.R_lower Q6.out Z7.out.size)
    have HB4 : Aside0 (b4 ≤ y8.heap.size) := ⟨Nat.le_trans HB4.out b.size⟩
    have HG := Aside0.mk (blk_below HG.out b)
    clear b hv
    go_wp2_with fail
    refine hK.out _ _ ?_ (fun hHeld => ?_)
    · exact KEEP.out _ Z8
    clear hK K
    try simp only [Act.put, List.setIfInBounds_toArray, List.set_cons_zero, List.set_cons_succ]
    refine wpAnyH_ready (rs := [23]) (by kernel_rfl) (by simp) ?_
    refine AllReadyH.cons (o := { dst := some 29, op := Op.call { callee := Callee.value (Operand.func 25), args := #[Operand.tmp 28], argTypes := #[25] }, type := 25, pos := "ref.go:394", after := #[{ on := 22, ground := Ground.data }, { on := 20, ground := Ground.chain }], guard := none }) rfl (fun K hK => ?_) AllReadyH.nil
    go_simp
    refine (CC8.out _ Z8).mono ?_
    rintro e y9 ⟨B8, D8, rfl, hv, b⟩
    have Z9 := TH.out _ _ Z8 b
    have Q0 := Aside0.mk (Kd.R_below Q0.out b)
    have Q1 := Aside0.mk (Kd.R_below Q1.out b)
    have Q2 := Aside0.mk (Kd.R_below Q2.out b)
    have Q3 := Aside0.mk (Kd.R_below Q3.out b)
    have Q4 := Aside0.mk (Kd.R_below Q4.out b)
    have Q5 := Aside0.mk (Kd.R_below Q5.out b)
    have Q6 := Aside0.mk (Kd.R_below Q6.out b)
    have Q8 := Aside0.mk (Kd.R_lower hv Z8.out.size)
    have HB4 : Aside0 (b4 ≤ y9.heap.size) := ⟨Nat.le_trans HB4.out b.size⟩
    have HG := Aside0.mk (blk_below HG.out b)
    clear b hv
    go_wp2_with fail
    refine hK.out _ _ ?_ (fun hHeld => ?_)
    · exact KEEP.out _ Z9
    clear hK K
    try simp only [Act.put, List.setIfInBounds_toArray, List.set_cons_zero, List.set_cons_succ]
    refine wpAnyH_take (i := 24) (oi := { dst := some 30, op := Op.build 27 #[(0, Operand.tmp 8), (1, Operand.tmp 11), (2, Operand.tmp 14), (3, Operand.tmp 17), (4, Operand.tmp 20), (5, Operand.tmp 23), (6, Operand.tmp 26), (8, Operand.tmp 29)], type := 27, pos := "ref.go:394", after := #[{ on := 2, ground := Ground.data }, { on := 5, ground := Ground.data }, { on := 8, ground := Ground.data }, { on := 11, ground := Ground.data }, { on := 14, ground := Ground.data }, { on := 17, ground := Ground.data }, { on := 20, ground := Ground.data }, { on := 23, ground := Ground.data }], guard := none }) (v := ?_) rfl (by kernel_rfl) (by kernel_rfl) (by kernel_rfl) (fun _ _ _ h => h) (Or.inl ⟨by rfl, ?_⟩) (by assumption) ?_
    rotate_left
    · first | (intro w hSw; (try dsimp only at hSw); go_simp; done) | (intro w hSw; (try dsimp only at hSw); go_simp; with_reducible rfl)
    try simp only [Act.put, List.setIfInBounds_toArray, List.set_cons_zero, List.set_cons_succ]
    refine wpAnyH_ready (rs := [26]) (by kernel_rfl) (by simp) ?_
    refine AllReadyH.cons (o := { dst := none, op := Op.store 27 (Operand.tmp 3) (Operand.tmp 30), type := 0, pos := "ref.go:394", after := #[{ on := 25, ground := Ground.data }, { on := 24, ground := Ground.data }, { on := 23, ground := Ground.chain }, { on := 0, ground := Ground.phase }, { on := 1, ground := Ground.phase }, { on := 2, ground := Ground.phase }, { on := 3, ground := Ground.phase }, { on := 4, ground := Ground.phase }, { on := 5, ground := Ground.phase }, { on := 6, ground := Ground.phase }, { on := 7, ground := Ground.phase }, { on := 8, ground := Ground.phase }, { on := 9, ground := Ground.phase }, { on := 10, ground := Ground.phase }, { on := 11, ground := Ground.phase }, { on := 12, ground := Ground.phase }, { on := 13, ground := Ground.phase }, { on := 14, ground := Ground.phase }, { on := 15, ground := Ground.phase }, { on := 16, ground := Ground.phase }, { on := 17, ground := Ground.phase }, { on := 18, ground := Ground.phase }, { on := 19, ground := Ground.phase }, { on := 20, ground := Ground.phase }, { on := 21, ground := Ground.phase }, { on := 22, ground := Ground.phase }, { on := 23, ground := Ground.phase }, { on := 24, ground := Ground.phase }, { on := 25, ground := Ground.phase }], guard := none }) rfl (fun K hK => ?_) AllReadyH.nil
    rw [if_pos (by rfl)]
    refine wp_store_row 27 _ _ rfl (w0.heap.size) (mdX ⟨B0, D0, B1, D1, B2, D2, B3, D3, B4, D4, B5, D5, B6, D6, none, 0, B8, D8⟩ m (.slice none 0 0)).toArray rfl rfl 27 _ HG.out (by kernel_rfl) (by rfl) (by simp [mdX]; exact ⟨rfl, rfl, rfl, rfl, rfl, rfl, rfl, rfl, rfl⟩) ?_
    have Q0 := Aside0.mk (Kd.R_bound (Kd.R_move (Kd.R_types Q0.out HG.out (by decide)) (fun k hk => setRow_other _ _ k (mdX ⟨B0, D0, B1, D1, B2, D2, B3, D3, B4, D4, B5, D5, B6, D6, none, 0, B8, D8⟩ m (.slice none 0 0)).toArray hk.2)))
    have Q1 := Aside0.mk (Kd.R_bound (Kd.R_move (Kd.R_types Q1.out HG.out (by decide)) (fun k hk => setRow_other _ _ k (mdX ⟨B0, D0, B1, D1, B2, D2, B3, D3, B4, D4, B5, D5, B6, D6, none, 0, B8, D8⟩ m (.slice none 0 0)).toArray hk.2)))
    have Q2 := Aside0.mk (Kd.R_bound (Kd.R_move (Kd.R_types Q2.out HG.out (by decide)) (fun k hk => setRow_other _ _ k (mdX ⟨B0, D0, B1, D1, B2, D2, B3, D3, B4, D4, B5, D5, B6, D6, none, 0, B8, D8⟩ m (.slice none 0 0)).toArray hk.2)))
    have Q3 := Aside0.mk (Kd.R_bound (Kd.R_move (Kd.R_types Q3.out HG.out (by decide)) (fun k hk => setRow_other _ _ k (mdX ⟨B0, D0, B1, D1, B2, D2, B3, D3, B4, D4, B5, D5, B6, D6, none, 0, B8, D8⟩ m (.slice none 0 0)).toArray hk.2)))
    have Q4 := Aside0.mk (Kd.R_bound (Kd.R_move (Kd.R_types Q4.out HG.out (by decide)) (fun k hk => setRow_other _ _ k (mdX ⟨B0, D0, B1, D1, B2, D2, B3, D3, B4, D4, B5, D5, B6, D6, none, 0, B8, D8⟩ m (.slice none 0 0)).toArray hk.2)))
    have Q5 := Aside0.mk (Kd.R_bound (Kd.R_move (Kd.R_types Q5.out HG.out (by decide)) (fun k hk => setRow_other _ _ k (mdX ⟨B0, D0, B1, D1, B2, D2, B3, D3, B4, D4, B5, D5, B6, D6, none, 0, B8, D8⟩ m (.slice none 0 0)).toArray hk.2)))
    have Q6 := Aside0.mk (Kd.R_bound (Kd.R_move (Kd.R_types Q6.out HG.out (by decide)) (fun k hk => setRow_other _ _ k (mdX ⟨B0, D0, B1, D1, B2, D2, B3, D3, B4, D4, B5, D5, B6, D6, none, 0, B8, D8⟩ m (.slice none 0 0)).toArray hk.2)))
    have Q8 := Aside0.mk (Kd.R_bound (Kd.R_move (Kd.R_types Q8.out HG.out (by decide)) (fun k hk => setRow_other _ _ k (mdX ⟨B0, D0, B1, D1, B2, D2, B3, D3, B4, D4, B5, D5, B6, D6, none, 0, B8, D8⟩ m (.slice none 0 0)).toArray hk.2)))
    have ZZ := Aside0.mk (below_setRow Z9.out hnb (mdX ⟨B0, D0, B1, D1, B2, D2, B3, D3, B4, D4, B5, D5, B6, D6, none, 0, B8, D8⟩ m (.slice none 0 0)).toArray)
    have HV := Aside0.mk (setRow_heap _ _ _ (mdX ⟨B0, D0, B1, D1, B2, D2, B3, D3, B4, D4, B5, D5, B6, D6, none, 0, B8, D8⟩ m (.slice none 0 0)).toArray _ _ HG.out)
    have HB4 : Aside0 (b4 ≤ (World.setRow y9 (w0.heap.size) (mdX ⟨B0, D0, B1, D1, B2, D2, B3, D3, B4, D4, B5, D5, B6, D6, none, 0, B8, D8⟩ m (.slice none 0 0)).toArray).heap.size) := ⟨by rw [setRow_size]; exact HB4.out⟩
    refine hK.out _ _ ?_ (fun hHeld => ?_)
    · exact KEEP.out _ ZZ
    clear hK K
    try simp only [Act.put, List.setIfInBounds_toArray, List.set_cons_zero, List.set_cons_succ]
    generalize World.setRow _ _ _ = w7 at *
    refine wpAnyH_done (by kernel_rfl) ?_ _
    refine NoPanic.normal ?_
    clear hHeld
    have hnbw : w0.heap.size ≤ w0.heap.size := hnb
    have hnblt : w0.heap.size < w7.heap.size := blk_lt HV.out
    have HMN : Aside0 (MdN w0.heap.size b4 w7.heap.size (w0.heap.size) w7 ⟨B0, D0, B1, D1, B2, D2, B3, D3, B4, D4, B5, D5, B6, D6, none, 0, B8, D8⟩ m) := ⟨⟨Kd.R_mono Q0.out (fun k hk => (⟨hk.1.2, hk.2.2.1⟩ : k ≠ w0.heap.size ∧ k < w7.heap.size)), Kd.R_mono Q1.out (fun k hk => (⟨hk.1.2, hk.2.2.1⟩ : k ≠ w0.heap.size ∧ k < w7.heap.size)), Kd.R_mono Q2.out (fun k hk => (⟨hk.1.2, hk.2.2.1⟩ : k ≠ w0.heap.size ∧ k < w7.heap.size)), Kd.R_mono Q3.out (fun k hk => (⟨⟨hk.1.2, hk.2.2.1⟩, hk.1.1.2⟩ : (k ≠ w0.heap.size ∧ k < w7.heap.size) ∧ k < b4)), Kd.R_mono Q4.out (fun k hk => (⟨⟨hk.1.2, hk.2.2.1⟩, hk.1.1.2⟩ : (k ≠ w0.heap.size ∧ k < w7.heap.size) ∧ b4 ≤ k)), Kd.R_mono Q5.out (fun k hk => (⟨⟨hk.1.2, hk.2.2.1⟩, hk.1.1.2⟩ : (k ≠ w0.heap.size ∧ k < w7.heap.size) ∧ b4 ≤ k)), Kd.R_mono Q6.out (fun k hk => (⟨⟨hk.1.2, hk.2.2.1⟩, hk.1.1.2⟩ : (k ≠ w0.heap.size ∧ k < w7.heap.size) ∧ b4 ≤ k)), Kd.R_mono Q8.out (fun k hk => (⟨hk.1.2, hk.2.2.1⟩ : k ≠ w0.heap.size ∧ k < w7.heap.size))⟩⟩
    clear Q0 Q1 Q2 Q3 Q4 Q5 Q6 Q8 hnb HG
    obtain ⟨rr, hrr⟩ : ∃ rr : MdR, (⟨B0, D0, B1, D1, B2, D2, B3, D3, B4, D4, B5, D5, B6, D6, none, 0, B8, D8⟩ : MdR) = rr := ⟨_, rfl⟩
    have HVV : Aside0 (w7.heap[w0.heap.size]? = some (.cells (mdX rr m (.slice none 0 0)).toArray 27 (0, 0))) := ⟨by rw [← hrr]; exact HV.out⟩
    rw [hrr] at HMN
    clear hrr HV
    obtain ⟨nb, hnbe⟩ : ∃ nb, nb = w0.heap.size := ⟨_, rfl⟩
    have HMN2 : Aside0 (MdN w0.heap.size b4 w7.heap.size nb w7 rr m) := ⟨by rw [hnbe]; exact HMN.out⟩
    clear HMN
    have HMN := HMN2
    rw [← hnbe] at HVV hnblt ⊢
    replace hnbw : w0.heap.size ≤ nb := Nat.le_of_eq hnbe.symm
    clear hnbe
  all_goals
    have HMB : Aside0 (w7.heap[w.heap.size]? = some (.cells (mdW r m).toArray 27 (0, 0))) := ⟨blk_below HNm.out ZZ.out⟩
    have HRB : Aside0 (w7.heap[w.heap.size + 1]? = some (.cells #[.slice none 0 0, .slice none 0 0, .slice none 0 0, .slice none 0 0, .slice none 0 0, .slice none 0 0, .slice none 0 0, .slice none 0 0, .slice none 0 0] 27 (0, 0))) := ⟨blk_below HNr.out ZZ.out⟩
    have HBW : Aside0 (Below w.heap.size w w7) := ⟨HBW0.out.trans (ZZ.out.mono hw0)⟩
    go_wp2_with fail
    go_loopw [4] (fun i wr => ∃ (k : Nat) (vf : Value), i = .int .i64 k ∧ k ≤ m.funcs.length ∧ Aside0 (wr.heap[nb]? = some (.cells (mdX rr m vf).toArray 27 (0, 0))) ∧ Aside0 (Kd.S kF 39 wr w7.heap.size (fun _ => True) vf (m.funcs.take k)) ∧ Aside0 (MdN w0.heap.size b4 w7.heap.size nb wr rr m) ∧ Aside0 (wr.heap[w.heap.size]? = some (.cells (mdW r m).toArray 27 (0, 0))) ∧ Aside0 (wr.heap[w.heap.size + 1]? = some (.cells #[.slice none 0 0, .slice none 0 0, .slice none 0 0, .slice none 0 0, .slice none 0 0, .slice none 0 0, .slice none 0 0, .slice none 0 0, .slice none 0 0] 27 (0, 0))) ∧ Aside0 (Below w.heap.size w wr) ∧ w7.heap.size ≤ wr.heap.size) (fun i _ => m.funcs.length - (intOf i).toNat)
    case atStart => exact ⟨0, _, rfl, Nat.zero_le _, HVV, ⟨Kd.S_nil _ _ _ _ _⟩, HMN, HMB, HRB, HBW, Nat.le_refl _⟩
    case round =>
      obtain ⟨k, vf, rfl, hk, HVr, HSr, HMNr, HMbr, HRbr, HBr, hsz⟩ := hrel
      obtain ⟨wi, rfl⟩ : ∃ wi : World, wi = wr := ⟨_, rfl⟩
      have g7 : wi.cell? ⟨w.heap.size, 7, none⟩ = some (.slice r.a7 m.funcs.length r.c7) := (blk_cell HMbr.out 7).trans rfl
      by_cases hlt : k < m.funcs.length
      · obtain ⟨ad, A4, c4, eA, d0, d1, d2, d3, d4, hl4, h4⟩ := at_T39 (HM.out.below HBr.out).h7 k (by omega) (by omega)
        rw [eA] at g7
        clear eA
        rw [Int.toNat_natCast] at d0 d1 d2 d3 d4
        have HFZ : Aside0 (∀ o ∈ (rd_T39 m.funcs k).f4, o.f8.length ≤ 1000000) := ⟨HZ.out _ (rd39_mem _ _ hlt)⟩
        have HFL : Aside0 ((rd_T39 m.funcs k).f4.length ≤ 1000000) := ⟨HFL0.out _ (rd39_mem _ _ hlt)⟩
        have HTK : Aside0 (m.funcs.take (k + 1) = m.funcs.take k ++ [rd_T39 m.funcs k]) := ⟨take39 m.funcs k hlt⟩
        have hxl : (m.funcs.take k).length ≤ 1000000 := by have := List.length_take_le k m.funcs; omega
        obtain ⟨xs, hxs⟩ : ∃ xs, m.funcs.take k = xs := ⟨_, rfl⟩
        rw [hxs] at hxl HTK HSr
        clear hxs
        obtain ⟨f, hf⟩ : ∃ f, rd_T39 m.funcs k = f := ⟨_, rfl⟩
        rw [hf] at d0 d1 d2 d3 d4 h4 hl4 HFZ HFL HTK
        clear hf
        have hst := store39 wi f.f0 f.f1 f.f2 f.f3 (.slice A4 f.f4.length c4) rfl
        have hlk := hlt
        obtain ⟨o, ho⟩ : ∃ o : Obj, (.cells #[.string f.f0, .int .i64 f.f1, .int .i64 f.f2, .int .i64 f.f3, .slice A4 f.f4.length c4] 39) = o := ⟨_, rfl⟩
        obtain ⟨w2, hw2⟩ : ∃ w2, wi.alloc o = w2 := ⟨_, rfl⟩
        have hNf : w2.heap[wi.heap.size]? = some (.cells #[.string f.f0, .int .i64 f.f1, .int .i64 f.f2, .int .i64 f.f3, .slice A4 f.f4.length c4] 39 (0, 0)) := by rw [← hw2, ← ho]; exact blk_new wi _
        have b2 : Below wi.heap.size wi w2 := by rw [← hw2]; exact below_alloc (Below.refl _ _) _
        have hs2 : wi.heap.size + 1 ≤ w2.heap.size := by rw [← hw2, World.size_alloc]; omega
        have HNF2 := Aside0.mk hNf
        have HB2 := Aside0.mk b2
        have f4 : w2.cell? ⟨wi.heap.size, 4, none⟩ = some (.slice A4 f.f4.length c4) := (blk_cell hNf 4).trans rfl
        have CC := Aside0.mk (copyCode_any A4 c4 f.f4 w2 (Kd.C_below h4 b2) hl4 HFL.out HFZ.out)
        clear hNf b2 h4 hl4
        go_wp2_with fail
        refine CC.out.mono ?_
        rintro e w3 ⟨B, D, rfl, hs, b⟩
        have HNF3 := Aside0.mk (blk_below HNF2.out b)
        have HB3 : Aside0 (Below wi.heap.size wi w3) := ⟨below_then HB2.out HB2.out.size b⟩
        have hs3 : w2.heap.size ≤ w3.heap.size := b.size
        have t4 : w3.cell? ⟨wi.heap.size, 4, none⟩ = some (.slice A4 f.f4.length c4) := (blk_cell HNF3.out 4).trans rfl
        have fr4 : w3.frozen? ⟨wi.heap.size, 4, none⟩ = false := blk_frozen HNF3.out 4
        obtain ⟨w4, hw4⟩ : ∃ w4, w3.setCell ⟨wi.heap.size, 4, none⟩ (.slice B f.f4.length D) = w4 := ⟨_, rfl⟩
        have hNF4 : w4.heap[wi.heap.size]? = some (.cells #[.string f.f0, .int .i64 f.f1, .int .i64 f.f2, .int .i64 f.f3, .slice B f.f4.length D] 39 (0, 0)) := by rw [← hw4]; exact (blk_set HNF3.out 4 _).trans rfl
        have hkeep : ∀ k, k < wi.heap.size → w4.heap[k]? = wi.heap[k]? := by
          intro k hk
          rw [← hw4, Below.heap_setCell _ _ _ _ (by show k ≠ wi.heap.size; omega)]
          exact HB3.out.block k hk
        have HK4 := Aside0.mk hkeep
        have hs4 : w3.heap.size ≤ w4.heap.size := by rw [← hw4]; simp
        have hNB4 : w4.heap[nb]? = some (.cells (mdX rr m vf).toArray 27 (0, 0)) := (hkeep nb (by omega)).trans HVr.out
        have HNB4 := Aside0.mk hNB4
        have q7 : w4.cell? ⟨nb, 7, none⟩ = some vf := (blk_cell hNB4 7).trans rfl
        have p0 : w4.cell? ⟨wi.heap.size, 0, none⟩ = some (.string f.f0) := (blk_cell hNF4 0).trans rfl
        have p1 : w4.cell? ⟨wi.heap.size, 1, none⟩ = some (.int .i64 f.f1) := (blk_cell hNF4 1).trans rfl
        have p2 : w4.cell? ⟨wi.heap.size, 2, none⟩ = some (.int .i64 f.f2) := (blk_cell hNF4 2).trans rfl
        have p3 : w4.cell? ⟨wi.heap.size, 3, none⟩ = some (.int .i64 f.f3) := (blk_cell hNF4 3).trans rfl
        have p4 : w4.cell? ⟨wi.heap.size, 4, none⟩ = some (.slice B f.f4.length D) := (blk_cell hNF4 4).trans rfl
        have HC4 : Aside0 (Kd.S k42 42 w4 w2.heap.size (fun _ => True) (.slice B f.f4.length D) f.f4) := ⟨by rw [← hw4]; exact Kd.S_set hs HNF3.out (by decide) 4 _⟩
        have HS4 : Aside0 (Kd.S kF 39 w4 w7.heap.size (fun k => True ∧ k < wi.heap.size) vf xs) := ⟨by rw [← hw4]; exact Kd.S_far (p := ⟨wi.heap.size, 4, none⟩) (Kd.S_old HSr.out HB3.out) (fun k hk => by have := hk.2; show k ≠ wi.heap.size; omega) _⟩
        have HMN4 : Aside0 (MdN w0.heap.size b4 w7.heap.size nb w4 rr m) := ⟨HMNr.out.step (fun k _ h1 _ => hkeep k (by omega))⟩
        have HMb4 := Aside0.mk ((hkeep w.heap.size (by omega)).trans HMbr.out)
        have HRb4 := Aside0.mk ((hkeep (w.heap.size + 1) (by omega)).trans HRbr.out)
        have HBw4 : Aside0 (Below w.heap.size w w4) := ⟨by rw [← hw4]; exact (below_then HBr.out HBr.out.size HB3.out).setCell (p := ⟨wi.heap.size, 4, none⟩) HBr.out.size _⟩
        have hvlt := Kd.S_lt HSr.out
        have HVLT := Aside0.mk hvlt
        clear hs b CC f4 hNF4 hkeep hNB4 d0 d1 d2 d3 d4 hvlt
        go_wp2_with (at_builtin; go_loud (refine Kd.S_append kF w7.heap.size rfl (.tmp 48) (.tmp 50) 24 39 (.agg #[(.string ⟨#[]⟩), (.int .i64 0), (.int .i64 0), (.int .i64 0), (.slice none 0 0)]) 64 rfl Tryd.underlying24 info39 rfl (by decide) (by decide) vf xs f [.string f.f0, .int .i64 f.f1, .int .i64 f.f2, .int .i64 f.f3, .slice B f.f4.length D] (fun _ => True) (fun k => w2.heap.size ≤ k) rfl rfl (kF_mkM w4 _ _ f (Kd.S_lower (Kd.S_mono (Kd.S_bound HC4.out) (fun k hk => hk.2.1)) (by omega))) (fun k hk => ⟨trivial, fun e => by have := HVLT.out k e.symm; omega⟩) (fun _ _ => trivial) (Kd.S_mono HS4.out (fun k hk => ⟨trivial, by have := hk.2; omega⟩)) (Below.refl w7.heap.size w4) (by omega) (by omega) ?_; intro v1 w5 hv1 hb1 hg1 hat1; generalize xs ++ [f] = ys at hv1 HTK; obtain ⟨A9, c9, hv9⟩ := Kd.S_slice hv1; subst hv9; clear hat1; have hNB5 := (hb1.block nb hnblt).trans HNB4.out; have u7 : w5.cell? ⟨nb, 7, none⟩ = some vf := (blk_cell hNB5 7).trans rfl; have fr7 : w5.frozen? ⟨nb, 7, none⟩ = false := blk_frozen hNB5 7; have HNB5 := Aside0.mk hNB5; clear hNB5))
        have HV5 := Aside0.mk hv1
        have HB5 := Aside0.mk hb1
        clear hv1 hb1 hg1
        go_wp2_with fail
        go_roundw
        case rel => exact ⟨k + 1, _, by go_num, hlk, ⟨(blk_set HNB5.out 7 (.slice A9 ys.length c9)).trans rfl⟩, ⟨by rw [HTK.out]; exact Kd.S_set HV5.out HNB5.out (by decide) 7 _⟩,
          ⟨HMN4.out.step (fun k _ h1 h2 => (Below.heap_setCell _ _ _ _ h2).trans (HB5.out.block k h1))⟩,
          ⟨(Below.heap_setCell _ _ _ _ (by show w.heap.size ≠ nb; omega)).trans ((HB5.out.block _ (by omega)).trans HMb4.out)⟩,
          ⟨(Below.heap_setCell _ _ _ _ (by show w.heap.size + 1 ≠ nb; omega)).trans ((HB5.out.block _ (by omega)).trans HRb4.out)⟩,
          ⟨(HBw4.out.trans (HB5.out.mono (by omega))).setCell (p := ⟨nb, 7, none⟩) (by show w.heap.size ≤ nb; omega) _⟩,
          by have := HB5.out.size; simp; omega⟩
        case measure => simp [intOf]; omega
      · have : k = m.funcs.length := by omega
        subst this
        rw [List.take_length] at HSr
        obtain ⟨A7, c7, hvf⟩ := Kd.S_slice HSr.out
        subst hvf
        have hNB := HVr.out
        have n0 : wi.cell? ⟨nb, 0, none⟩ = some (.slice rr.a0 m.globals.length rr.c0) := (blk_cell hNB 0).trans rfl
        have n1 : wi.cell? ⟨nb, 1, none⟩ = some (.slice rr.a1 m.structs.length rr.c1) := (blk_cell hNB 1).trans rfl
        have n2 : wi.cell? ⟨nb, 2, none⟩ = some (.slice rr.a2 m.chans.length rr.c2) := (blk_cell hNB 2).trans rfl
        have n3 : wi.cell? ⟨nb, 3, none⟩ = some (.slice rr.a3 m.locks.length rr.c3) := (blk_cell hNB 3).trans rfl
        have n4 : wi.cell? ⟨nb, 4, none⟩ = some (.slice rr.a4 m.inputs.length rr.c4) := (blk_cell hNB 4).trans rfl
        have n5 : wi.cell? ⟨nb, 5, none⟩ = some (.slice rr.a5 m.sinks.length rr.c5) := (blk_cell hNB 5).trans rfl
        have n6 : wi.cell? ⟨nb, 6, none⟩ = some (.slice rr.a6 m.hatches.length rr.c6) := (blk_cell hNB 6).trans rfl
        have n7 : wi.cell? ⟨nb, 7, none⟩ = some (.slice A7 m.funcs.length c7) := (blk_cell hNB 7).trans rfl
        have n8 : wi.cell? ⟨nb, 8, none⟩ = some (.slice rr.a8 m.threads.length rr.c8) := (blk_cell hNB 8).trans rfl
        clear hNB
        go_wp2_with (refine wpList_store_row rfl 27 (.tmp 2) (.tmp 53) rfl (w.heap.size + 1) (mdX rr m (.slice A7 m.funcs.length c7)).toArray rfl rfl 27 _ HRbr.out (by kernel_rfl) rfl (by simp [mdX]; exact ⟨rfl, rfl, rfl, rfl, rfl, rfl, rfl, rfl, rfl⟩) ?_)
        refine bodyPost_ret (results_cell_row rfl _ _ (w.heap.size + 1) 27 (mdX rr m (.slice A7 m.funcs.length c7)).toArray (0, 0) _ rfl (setRow_heap _ _ _ _ _ _ HRbr.out) Tryd.underlying27 rfl (by kernel_rfl)) rfl ?_
        refine ⟨{ rr with a7 := A7, c7 := c7 }, rfl, ⟨⟨b4, w7.heap.size, nb, ?_, ?_, by omega⟩⟩, below_setRow HBr.out (by omega) _⟩
        · have := HMNr.out.step (w1 := wi.setRow (w.heap.size + 1) (mdX rr m (.slice A7 m.funcs.length c7)).toArray) (fun k h0 _ _ => setRow_other _ _ _ _ (by omega))
          exact ⟨this.g0, this.g1, this.g2, this.g3, this.g4, this.g5, this.g6, this.g8⟩
        · exact Kd.S_mono (Kd.S_move (Kd.S_bound HSr.out) (fun k hk => setRow_other _ _ _ _ (by have := hk.2.1; omega))) (fun _ _ => trivial)
end Go.Proofs.YtdapiibllblpbaaDoor.Code
