import Derived.Test.YtdapiibllblpbaaDoorF
namespace Go.Proofs.YtdapiibllblpbaaDoor.Code
open Go.RowKit Go.Proofs.YtdapiibllblpbaaDoorW.PrintWords Go.Proofs.YtdapiibllblpbaaDoorW.PrintLast Go.Proofs.YtdapiibllblpbaaDoorW.PrintMore Go.Proofs.YtdapiibllblpbaaDoor.PCodeAnswers
set_option linter.unusedVariables false
set_option linter.unusedSimpArgs false

/-- A viewer's fifteen words. -/
def vwW (r : MdR) (m : Md) (f : S39) (A4 : Option Addr) (c4 : Nat) (n : Int) : List Value := mdW r m ++ [.string f.f0, .int .i64 f.f1, .int .i64 f.f2, .int .i64 f.f3, .slice A4 f.f4.length c4, .int .i64 n]
def opW (o : S42) (A : Option Addr) (c : Nat) : List Value := [.int .i64 o.f0, .int .i64 o.f1, .int .i64 o.f2, .int .i64 o.f3, .int .i64 o.f4, .int .i64 o.f5, .int .i64 o.f6, .int .i64 o.f7, .slice A o.f8.length c, .int .i64 o.f9, .int .i64 o.f10, .int .i64 o.f11]
theorem regs_list (r : MdR) (m : Md) (f : S39) (A4 : Option Addr) (c4 : Nat) (n : Int) (A : Option Addr) (c : Nat) (zs : List Int) (w : World) (hr : Kd.C (Kd.int .i64) w A zs.length zs) (hl : zs.length ≤ 1000000) :
    Calls Tryd.prog 49 #[.agg (vwW r m f A4 c4 n).toArray, .slice A zs.length c] w fun e w' => e = .returned (.bool (below f.f2 zs)) ∧ Below w.heap.size w w' := by
  have hb := below_alloc (Below.refl w.heap.size w) (.cells (vwW r m f A4 c4 n).toArray 55)
  have HB := Aside0.mk hb
  have c11 : (w.alloc (.cells (vwW r m f A4 c4 n).toArray 55)).cell? ⟨w.heap.size, 11, none⟩ = some (.int .i64 f.f2) := (blk_cell (blk_new w _) 11).trans rfl
  have H := Aside0.mk (below_list f.f2 A c zs _ (Kd.C_below hr hb) hl)
  clear hr hb
  go_enter Tryd.func49, Tryd.ntmps49
  go_wp2_with fail
  refine H.out.mono ?_
  rintro e w' ⟨rfl, b⟩
  have B := Aside0.mk (below_then HB.out HB.out.size b)
  clear b
  go_wp2_with fail
  go_ret
  exact ⟨rfl, B.out⟩
/-- The viewer and the operation, boxed. -/
structure Eyes (w0 w : World) (r : MdR) (m : Md) (f : S39) (A4 : Option Addr) (c4 : Nat) (n : Int) (o : S42) (A : Option Addr) (c : Nat) : Prop where
  hb : Below w0.heap.size w0 w
  hv : w.heap[w0.heap.size]? = some (.cells (vwW r m f A4 c4 n).toArray 55 (0, 0))
  ho : w.heap[w0.heap.size + 1]? = some (.cells (opW o A c).toArray 42 (0, 0))
theorem Eyes.at0 (w : World) (r : MdR) (m : Md) (f : S39) (A4 : Option Addr) (c4 : Nat) (n : Int) (o : S42) (A : Option Addr) (c : Nat) : Eyes w ((w.alloc (.cells (vwW r m f A4 c4 n).toArray 55)).alloc (.cells (opW o A c).toArray 42)) r m f A4 c4 n o A c := by
  refine ⟨below_alloc (below_alloc (Below.refl _ _) _) _, ?_, ?_⟩
  · exact blk_below (blk_new w _) (below_alloc (Below.refl _ _) _)
  · have := blk_new (w.alloc (.cells (vwW r m f A4 c4 n).toArray 55)) (.cells (opW o A c).toArray 42)
    rwa [World.size_alloc] at this
theorem Eyes.then {w0 w w' : World} {r : MdR} {m : Md} {f : S39} {A4 : Option Addr} {c4 : Nat} {n : Int} {o : S42} {A : Option Addr} {c : Nat} (h : Eyes w0 w r m f A4 c4 n o A c) (b : Below w.heap.size w w') : Eyes w0 w' r m f A4 c4 n o A c :=
  ⟨below_then h.hb h.hb.size b, blk_below h.hv b, blk_below h.ho b⟩
/-- A call of below, regs, zero with a list just laid. -/
theorem below_lits (most : Int) (l : List Int) (w : World) (H : Nat) (hH : w.heap.size = H) (vs : Array Value) (hv : vs = (l.map (Value.int .i64)).toArray) (k : Nat) (hk : k = l.length) (hl : l.length ≤ 1000000) :
    Calls Tryd.prog 43 #[.int .i64 most, .slice (some ⟨H, 0, none⟩) k k] (w.alloc (.cells vs 3)) fun e w' => e = .returned (.bool (below most l)) ∧ Below w.heap.size w w' := by
  subst hk
  have hb := below_alloc (Below.refl w.heap.size w) (.cells vs 3)
  refine (below_list most (some ⟨H, 0, none⟩) l.length l (w.alloc (.cells vs 3)) (lit_ints w H hH l vs hv hl) hl).mono ?_
  rintro e w' ⟨h, b⟩
  exact ⟨h, below_then hb hb.size b⟩
theorem zero_lits (l : List Int) (w : World) (H : Nat) (hH : w.heap.size = H) (vs : Array Value) (hv : vs = (l.map (Value.int .i64)).toArray) (k : Nat) (hk : k = l.length) (hl : l.length ≤ 1000000) :
    Calls Tryd.prog 58 #[.slice (some ⟨H, 0, none⟩) k k] (w.alloc (.cells vs 3)) fun e w' => e = .returned (.bool (zero l)) ∧ Below w.heap.size w w' := by
  subst hk
  have hb := below_alloc (Below.refl w.heap.size w) (.cells vs 3)
  refine (zero_list (some ⟨H, 0, none⟩) l.length l (w.alloc (.cells vs 3)) (lit_ints w H hH l vs hv hl) hl).mono ?_
  rintro e w' ⟨h, b⟩
  exact ⟨h, below_then hb hb.size b⟩
theorem regs_lits (r : MdR) (m : Md) (f : S39) (A4 : Option Addr) (c4 : Nat) (n : Int) (l : List Int) (w : World) (H : Nat) (hH : w.heap.size = H) (vs : Array Value) (hv : vs = (l.map (Value.int .i64)).toArray) (k : Nat) (hk : k = l.length) (hl : l.length ≤ 1000000) :
    Calls Tryd.prog 49 #[.agg (vwW r m f A4 c4 n).toArray, .slice (some ⟨H, 0, none⟩) k k] (w.alloc (.cells vs 3)) fun e w' => e = .returned (.bool (below f.f2 l)) ∧ Below w.heap.size w w' := by
  subst hk
  have hb := below_alloc (Below.refl w.heap.size w) (.cells vs 3)
  refine (regs_list r m f A4 c4 n (some ⟨H, 0, none⟩) l.length l (w.alloc (.cells vs 3)) (lit_ints w H hH l vs hv hl) hl).mono ?_
  rintro e w' ⟨h, b⟩
  exact ⟨h, below_then hb hb.size b⟩
end Go.Proofs.YtdapiibllblpbaaDoor.Code
