import Derived.Test.YtdapiibllblpbaaDoorSG
import Derived.Test.YtdapiibllblpbaaDoorS
import Derived.Lib.Join
namespace Go.Proofs.YtdapiibllblpbaaDoor.Code
open Go.RowKit Go.Proofs.YtdapiibllblpbaaDoorW.PrintWords Go.Proofs.YtdapiibllblpbaaDoorW.PrintLast Go.Proofs.YtdapiibllblpbaaDoorW.PrintMore Go.Proofs.YtdapiibllblpbaaDoor.PCodeAnswers
set_option linter.unusedVariables false
set_option linter.unusedSimpArgs false

/-! ### The document's text: bytes that are appended to -/
def ints (l : List UInt8) : List Int := l.map fun c => (c.toNat : Int)
theorem ints_append (a b : List UInt8) : ints (a ++ b) = ints a ++ ints b := List.map_append
theorem ints_length (a : List UInt8) : (ints a).length = a.length := List.length_map _
def lst (s : ByteArray) : List UInt8 := s.data.toList
theorem bytesOf_lst (s : ByteArray) : bytesOf s = ints (lst s) := rfl
theorem lst_append (a b : ByteArray) : lst (a ++ b) = lst a ++ lst b := by simp [lst]
theorem lst_mk (l : List UInt8) : lst ⟨l.toArray⟩ = l := by simp [lst]
theorem lst_size (s : ByteArray) : (lst s).length = s.size := data_length s
def tailL (xs : List Wd) : List UInt8 := (xs.map fun x => 32 :: lst (piece x)).flatten
theorem tailL_append (a b : List Wd) : tailL (a ++ b) = tailL a ++ tailL b := by simp [tailL]
theorem tailL_one (x : Wd) : tailL [x] = 32 :: lst (piece x) := by simp [tailL]
theorem lineL_cons (x : Wd) (xs : List Wd) : lineL (x :: xs) = lst (piece x) ++ tailL xs ++ [10] := by
  have key : ∀ (x : Wd) (xs : List Wd), Lib.join ((x :: xs).map fun x => (piece x).data.toList) [32] = lst (piece x) ++ tailL xs := by
    intro x xs
    induction xs generalizing x with
    | nil => simp [Lib.join, tailL, lst, List.intercalate]
    | cons y ys ih =>
      have e : Lib.join ((x :: y :: ys).map fun x => (piece x).data.toList) [32] = lst (piece x) ++ ([32] ++ Lib.join ((y :: ys).map fun x => (piece x).data.toList) [32]) := by
        simp [Lib.join, List.intercalate, lst]
      rw [e, ih y]
      simp [tailL]
  unfold lineL
  rw [key x xs]
def itoaB (v : Int) : ByteArray := ⟨(Lib.itoa v).toArray⟩
theorem lst_itoa (v : Int) : lst (itoaB v) = lst (piece (.num v)) := rfl
theorem fn_line (k : Int) (f : S39) : lst (⟨#[102, 117, 110, 99, 32]⟩ ++ ⟨(Lib.itoa k).toArray⟩ ++ ⟨#[32]⟩ ++ ⟨(Lib.itoa f.f1).toArray⟩ ++ ⟨#[32]⟩ ++ ⟨(Lib.itoa f.f2).toArray⟩ ++ ⟨#[32]⟩ ++ ⟨(Lib.itoa f.f3).toArray⟩ ++ ⟨#[10]⟩) = lineL (fnL k f) := by
  unfold fnL
  rw [lineL_cons]
  simp [tailL, lst, piece]
theorem op_head (j k : Int) : lst (⟨(Lib.itoa j).toArray⟩ ++ ⟨#[32]⟩ ++ nm k) = lst (piece (.num j)) ++ tailL [.txt (nm k)] := by
  simp [tailL, lst, piece]
theorem op_num (v : Int) : lst (⟨#[32]⟩ ++ ⟨(Lib.itoa v).toArray⟩) = tailL [.num v] := by
  simp [tailL, lst, piece]
theorem op_arrow (v : Int) : lst (⟨#[32, 45, 62, 32]⟩ ++ ⟨(Lib.itoa v).toArray⟩) = tailL [.txt arrow, .num v] := by
  simp [tailL, lst, piece, arrow]
/-- The row of the document's text; what else is kept where it grows. -/
def TX (B : Nat) (v : Value) (l : List UInt8) (W : World) : Prop := (Kd.int .u8).R 5 W B (fun _ => True) v (ints l)
structure K5 (W W' : World) : Prop where
  size : W.heap.size ≤ W'.heap.size
  keep : ∀ (k : Nat) (cs : Array Value) (t : TypeId) (f : Nat × Nat), W.heap[k]? = some (.cells cs t f) → t ≠ 5 → W'.heap[k]? = some (.cells cs t f)
theorem blk_lt {W : World} {k : Nat} {o : Obj} (h : W.heap[k]? = some o) : k < W.heap.size := by
  rcases Nat.lt_or_ge k W.heap.size with hl | hl
  · exact hl
  · rw [Array.getElem?_eq_none hl] at h
    cases h
theorem K5.refl (W : World) : K5 W W := ⟨Nat.le_refl _, fun _ _ _ _ h _ => h⟩
theorem K5.of_below {W W' : World} (h : Below W.heap.size W W') : K5 W W' := ⟨h.size, fun k cs t f hc _ => (h.block k (blk_lt hc)).trans hc⟩
theorem K5.trans {W W1 W2 : World} (h : K5 W W1) (g : K5 W1 W2) : K5 W W2 := ⟨Nat.le_trans h.size g.size, fun k cs t f hc ht => g.keep k cs t f (h.keep k cs t f hc ht) ht⟩
theorem K5.row {W W' : World} (k : K5 W W') {B : Nat} {v : Value} {xs : List Int} (h : (Kd.int .i64).R 3 W B (fun _ => True) v xs) : (Kd.int .i64).R 3 W' B (fun _ => True) v xs := by
  refine Kd.R_mono (Kd.R_move (Kd.R_bound h) (fun j hj => ?_)) (fun _ _ => trivial)
  obtain ⟨_, _, _, q, hq, cells, hc⟩ := hj
  have hq3 : q = 3 := by
    rcases List.mem_cons.1 hq with h | h
    · exact h
    · cases h
  subst hq3
  rw [k.keep _ _ _ _ hc (by decide), hc]
theorem TX.below {B : Nat} {v : Value} {l : List UInt8} {W W' : World} (h : TX B v l W) (b : Below W.heap.size W W') : TX B v l W' := Kd.R_below h b
theorem TX.kept {B : Nat} {v : Value} {l : List UInt8} {W W' : World} (h : TX B v l W) (g : W.grownBy W' v.ownBlock) (hs : W.heap.size ≤ W'.heap.size) : K5 W W' := by
  refine ⟨hs, fun k cs t f hc ht => (g.block k (blk_lt hc) ?_).trans hc⟩
  intro e
  obtain ⟨_, _, _, q, hq, cells, hc'⟩ := (Kd.R_bound h).1 k e.symm
  have hq5 : q = 5 := by
    rcases List.mem_cons.1 hq with h | h
    · exact h
    · cases h
  rw [hc] at hc'
  injection hc' with hc'
  injection hc' with _ h2 _
  exact ht (h2.trans hq5)
theorem bytes_C (W : World) (s : ByteArray) (hs : s.size ≤ 9223372036854775807) : (Kd.int .u8).C (Lib.bytesWorld W 5 s) (some ⟨W.heap.size, 0, none⟩) s.size (ints (lst s)) :=
  Kd.C_of_reads (d := (0 : Int)) (h1 := fun _ => rfl) (readsInt_of.1 (bytes_reads W 5 s hs))
section
variable {ops : Array Oper} {rest : List Oper} {o : Oper} {a : Act} {Q : Exit → Act → World → Prop}
theorem tx_app {B : Nat} {w0 W : World} (s x : Operand) (hgd : o.guard = none) (ho : o.op = .call { callee := .builtin .append, args := #[s, x], argTypes := #[65, 65] }) (v : Value) (l : List UInt8) (hs : a.eval s = v)
    (A : Option Addr) (m c : Nat) (hx : a.eval x = .slice A m c) (y : List UInt8) (HO : TX B v l W) (HR : (Kd.int .u8).C W A m (ints y)) (HB : Below B w0 W) (hbase : B ≤ W.heap.size) (hl : l.length + y.length ≤ 140737488355328)
    (h : ∀ v1 w1, Aside0 (TX B v1 (l ++ y) w1) → Aside0 (Below B w0 w1) → Aside0 (K5 W w1) → wpList Tryd.prog ops Q rest (a.put o.dst v1) w1) : wpList Tryd.prog ops Q (o :: rest) a W := by
  have hm : y.length = m := by rw [← ints_length]; exact HR.1
  refine Kd.R_append_rows (Kd.int .u8) (w0 := w0) B hgd s x 65 5 _ 1 ho Tryd.underlying65 info5 rfl (by decide) (by decide) v (ints l) (ints y) A m c (fun _ => True) (fun _ => False) hs hx HO HR (fun _ _ h => h) (fun _ h => h.elim) (fun _ _ => trivial) HB hbase (by rw [ints_length]; omega) ?_
  intro v1 w1 h1 h2 h3 _
  refine h v1 w1 ⟨?_⟩ ⟨h2⟩ ⟨TX.kept HO h3 h3.size⟩
  unfold TX
  rw [ints_append]
  exact h1
theorem tx_step {Kc : Act → World → Prop} {B : Nat} {w0 W : World} (hw : Region.wanted o (yielded ops a.tmps) = true) (s x : Operand) (ho : o.op = .call { callee := .builtin .append, args := #[s, x], argTypes := #[65, 65] }) (v : Value) (l : List UInt8) (hs : a.eval s = v)
    (A : Option Addr) (m c : Nat) (hx : a.eval x = .slice A m c) (y : List UInt8) (HO : TX B v l W) (HR : (Kd.int .u8).C W A m (ints y)) (HB : Below B w0 W) (hbase : B ≤ W.heap.size) (hl : l.length + y.length ≤ 140737488355328)
    (h : ∀ v1 w1, Aside0 (TX B v1 (l ++ y) w1) → Aside0 (Below B w0 w1) → Aside0 (K5 W w1) → Kc (a.put o.dst v1) w1) : if Region.wanted o (yielded ops a.tmps) = true then Oper.wp Tryd.prog o a W Kc Q else Kc (a.put o.dst undef) W := by
  have hm : y.length = m := by rw [← ints_length]; exact HR.1
  refine Kd.R_append_rows_step (Kd.int .u8) (w0 := w0) B hw s x 65 5 _ 1 ho Tryd.underlying65 info5 rfl (by decide) (by decide) v (ints l) (ints y) A m c (fun _ => True) (fun _ => False) hs hx HO HR (fun _ _ h => h) (fun _ h => h.elim) (fun _ _ => trivial) HB hbase (by rw [ints_length]; omega) ?_
  intro v1 w1 h1 h2 h3 _
  refine h v1 w1 ⟨?_⟩ ⟨h2⟩ ⟨TX.kept HO h3 h3.size⟩
  unfold TX
  rw [ints_append]
  exact h1
end
end Go.Proofs.YtdapiibllblpbaaDoor.Code
