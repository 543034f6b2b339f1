import Derived.Test.YtpbaebjohioijaaWy
namespace Go.Proofs.Ytpbaebjohioijaa
open Go.RowKit Go.Proofs.YtpbaebjohioijaaW.PrintWords
set_option linter.unusedVariables false
/-- Between the two worlds only blocks of S have turned; new ones may have come. -/
structure Foot (S : Nat → Prop) (w w' : World) : Prop where
  os : w'.os = w.os
  tape : w'.tape = w.tape
  output : w'.output = w.output
  size : w.heap.size ≤ w'.heap.size
  block : ∀ k, k < w.heap.size → ¬ S k → w'.heap[k]? = w.heap[k]?
namespace Foot
variable {S T : Nat → Prop} {w w1 w2 : World}
theorem refl (S : Nat → Prop) (w : World) : Foot S w w := ⟨rfl, rfl, rfl, Nat.le_refl _, fun _ _ _ => rfl⟩
theorem trans (h : Foot S w w1) (k : Foot T w1 w2) (hT : ∀ b, T b → b < w.heap.size → S b) : Foot S w w2 :=
  ⟨k.os.trans h.os, k.tape.trans h.tape, k.output.trans h.output, Nat.le_trans h.size k.size, fun b hb hs =>
    (k.block b (Nat.lt_of_lt_of_le hb h.size) (fun ht => hs (hT b ht hb))).trans (h.block b hb hs)⟩
theorem mono (h : Foot S w w1) (hT : ∀ b, S b → b < w.heap.size → T b) : Foot T w w1 :=
  ⟨h.os, h.tape, h.output, h.size, fun b hb hs => h.block b hb (fun hS => hs (hT b hS hb))⟩
theorem of_below (h : Below w.heap.size w w1) : Foot S w w1 := ⟨h.os, h.tape, h.output, h.size, fun b hb _ => h.block b hb⟩
theorem drewN (h : Foot S w w1) (n : Nat) : Foot S w (w1.drewN n) := ⟨h.os, h.tape, h.output, h.size, h.block⟩
theorem of_drawn (h : Drawn0 w w1) : Foot S w w1 := of_below h.below
theorem grown {row : Option Nat} (h : Foot S w w1) (hg : w1.grownBy w2 row) (hr : ∀ k, row = some k → k < w.heap.size → S k) : Foot S w w2 :=
  h.trans (T := fun k => row = some k) ⟨hg.os, hg.tape, hg.output, hg.size, fun b hb hs => hg.block b hb (fun e => hs e.symm)⟩ hr
theorem alloc (h : Foot S w w1) (o : Obj) : Foot S w (w1.alloc o) :=
  h.trans (T := S) (of_below (below_alloc (Below.refl _ _) o)) (fun _ h _ => h)
theorem setCell (h : Foot S w w1) {p : Addr} (hp : p.block < w.heap.size → S p.block) (u : Value) : Foot S w (w1.setCell p u) :=
  h.trans (T := fun k => k = p.block) ⟨rfl, rfl, rfl, by simp [World.setCell], fun b hb hs => Below.heap_setCell w1 p u b hs⟩ (fun b hb hlt => by subst hb; exact hp hlt)
theorem below (h : Foot S w w1) {B : Nat} (hB : B ≤ w.heap.size) (hS : ∀ b, S b → B ≤ b) : Below B w w1 :=
  ⟨h.os, h.tape, h.output, h.size, fun b hb => h.block b (Nat.lt_of_lt_of_le hb hB) (fun hs => by have := hS b hs; omega)⟩
theorem blk (h : Foot S w w1) {g : Nat} {o : Obj} (hg : w.heap[g]? = some o) (hs : ¬ S g) : w1.heap[g]? = some o := (h.block g (blk_lt hg) hs).trans hg
end Foot
theorem R_foot {α : Type} {d : Kd α} {e : Nat} {w w1 : World} {base : Nat} {ok : Nat → Prop} {v : Value} {xs : List α} {S : Nat → Prop} (h : d.R e w base ok v xs) (hf : Foot S w w1) (hs : ∀ k, ok k → ¬ S k) : d.R e w1 base ok v xs :=
  Kd.R_step h (fun k hk hlt => hf.block k hlt (hs k hk))
theorem M_foot {α : Type} {d : Kd α} {w w1 : World} {base : Nat} {ok : Nat → Prop} {x : α} {cs : List Value} {S : Nat → Prop} (h : d.M w base ok x cs) (hf : Foot S w w1) (hs : ∀ k, ok k → ¬ S k) : d.M w1 base ok x cs :=
  Kd.M_step h (fun k hk hlt => hf.block k hlt (hs k hk))
theorem wf64 {n : Int} (h : (Lit.int .i64 n).wf = true) : -9223372036854775808 ≤ n ∧ n ≤ 9223372036854775807 := by
  simp [Lit.wf, IntKind.min, IntKind.max, IntKind.signed, IntKind.bits] at h
  omega
theorem below_alloc' {B : Nat} {w W : World} (h : Below B w W) (hB : B ≤ w.heap.size) (o : Obj) : Below B w (W.alloc o) := h.alloc (Nat.le_trans hB h.size) o
theorem lit_nil {α : Type} (d : Kd α) (e : Nat) (w : World) (base : Nat) (hb : base ≤ w.heap.size) : d.R e (w.alloc (.cells #[] e)) base (fun _ => True) (.slice (some ⟨w.heap.size, 0, none⟩) 0 0) [] :=
  ⟨fun _ _ => trivial, OwnRow.lit (R := d.M (w.alloc (.cells #[] e)) base (fun k => True ∧ some k ≠ (Value.slice (some ⟨w.heap.size, 0, none⟩) 0 0).ownBlock)) (ps := []) w base (Reps.none _ _) hb (by simp)⟩
theorem results_tct {P : Program} {fn : Func} {p u v : Tmp} {ty : TypeId} (h : fn.results = #[.tmp u, .cell p ty, .tmp v]) (tmps : Array Value) (w : World) (g : Nat) (t : TypeId) (cs : Array Value) (fr : Nat × Nat) (d : TypeDesc)
    (hp : tmps.getD p undef = .pointer (some ⟨g, 0, none⟩)) (hg : w.heap[g]? = some (.cells cs t fr))
    (hu : P.underlying ty = some d) (hd : (match d with | .struct _ | .array _ _ => true | _ => false) = true) (hi : (P.info? ty).map (·.size) = some cs.size) :
    (results fn tmps).run P w = .ok (.tuple #[tmps.getD u undef, .agg cs, tmps.getD v undef]) w := by
  have hp' : tmps[p]?.getD undef = .pointer (some ⟨g, 0, none⟩) := by simpa using hp
  simp [results, h, hp', asAddr, run_loadVar_row w g t ty cs fr d hg hu hd hi]
end Go.Proofs.Ytpbaebjohioijaa
