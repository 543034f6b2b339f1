import Derived.Test.YtdapiibllblpbaaDoorX0
namespace Go.Proofs.YtdapiibllblpbaaDoor.Code
open Go.Proofs.YtdapiibllblpbaaDoor.PCodeAnswers
set_option linter.unusedVariables false
set_option linter.unusedSimpArgs false

/-- A module's parts. -/
structure Md where
  globals : List S46
  structs : List S46
  chans : List S46
  locks : List ByteArray
  inputs : List ByteArray
  sinks : List ByteArray
  hatches : List ByteArray
  funcs : List S39
  threads : List Int
def below (most : Int) (l : List Int) : Bool := l.all fun n => decide (0 ≤ n) && decide (n < most)
def zero (l : List Int) : Bool := below 1 l
def fnAt (m : Md) (i : Int) : S39 := m.funcs.getD i.toNat z39
def wordsM (m : Md) : Int := (m.globals.map (·.f1)).foldl (· + ·) 0
/-- What the program asks of an operation's fields. -/
def othersM (m : Md) (regs : Int) (o : S42) : Bool :=
  if o.f0 = 16 ∨ o.f0 = 17 then below m.locks.length [o.f1] && zero [o.f2, o.f3, o.f4, o.f5, o.f6, o.f7]
  else if o.f0 = 18 then below m.chans.length [o.f1] && (below regs [o.f2] && zero [o.f3, o.f4, o.f5, o.f6, o.f7])
  else if o.f0 = 19 then below regs [o.f1] && (below m.chans.length [o.f2] && zero [o.f3, o.f4, o.f5, o.f6, o.f7])
  else if o.f0 = 20 then below m.sinks.length [o.f1] && (below regs [o.f2] && zero [o.f3, o.f4, o.f5, o.f6, o.f7])
  else if o.f0 = 21 then below regs [o.f1] && zero [o.f2, o.f3, o.f4, o.f5, o.f6, o.f7]
  else if o.f0 = 22 then below m.funcs.length [o.f1] && (zero [o.f3, o.f4, o.f5, o.f6] &&
    (if o.f7 = 0 then decide (o.f2 = -1) else decide (o.f7 = (fnAt m o.f1).f3) && (below regs [o.f2] && decide (o.f2 ≤ regs - o.f7))))
  else if o.f0 = 23 then zero [o.f1, o.f2, o.f3, o.f4, o.f5, o.f6, o.f7]
  else false
def fieldsM (m : Md) (regs words : Int) (o : S42) : Bool :=
  if o.f0 = 1 then below regs [o.f1] && zero [o.f2, o.f3, o.f4, o.f5, o.f6]
  else if o.f0 = 2 then below regs [o.f1] && (below m.inputs.length [o.f2] && zero [o.f3, o.f4, o.f5, o.f6, o.f7])
  else if o.f0 = 3 then below regs [o.f1] && (below m.hatches.length [o.f2] && zero [o.f3, o.f4, o.f5, o.f6, o.f7])
  else if o.f0 = 4 then below regs [o.f1, o.f2] && zero [o.f3, o.f4, o.f5, o.f6, o.f7]
  else if o.f0 = 5 then below regs [o.f1, o.f2] && (zero [o.f3, o.f4, o.f5, o.f6] && decide (o.f7 = 1 ∨ o.f7 = 2))
  else if o.f0 = 6 then below regs [o.f1, o.f2, o.f3] && (zero [o.f4, o.f5, o.f6] && decide (1 ≤ o.f7 ∧ o.f7 ≤ 11))
  else if o.f0 = 7 then below regs [o.f1] && (below words [o.f2] && (zero [o.f3, o.f4, o.f5, o.f6] && below 2 [o.f7]))
  else if o.f0 = 8 then below words [o.f1] && (below regs [o.f2] && (zero [o.f3, o.f4, o.f5, o.f6] && below 2 [o.f7]))
  else if o.f0 = 9 then below regs [o.f1] && (below m.structs.length [o.f2] && zero [o.f3, o.f4, o.f5, o.f6, o.f7])
  else if o.f0 = 10 then below regs [o.f1, o.f2, o.f3] && (decide (o.f1 ≠ o.f2) && zero [o.f4, o.f5, o.f6, o.f7])
  else if o.f0 = 11 then below regs [o.f1, o.f2] && (below 16 [o.f3] && (zero [o.f4, o.f5, o.f6] && below 2 [o.f7]))
  else if o.f0 = 12 then below regs [o.f1, o.f3] && (below 16 [o.f2] && (zero [o.f4, o.f5, o.f6] && below 2 [o.f7]))
  else if o.f0 = 13 ∨ o.f0 = 14 then below regs [o.f1, o.f2, o.f3, o.f4] && zero [o.f5, o.f6, o.f7]
  else if o.f0 = 15 then below regs [o.f1, o.f2, o.f3, o.f4, o.f5, o.f6] && (decide (o.f1 ≠ o.f2) && zero [o.f7])
  else othersM m regs o
/-- Is an operation right, as the program has it. -/
def rightM (m : Md) (f : S39) (o : S42) : Bool :=
  fieldsM m f.f2 (wordsM m) o && (below f.f2 o.f8 &&
    (decide ((o.f8.length : Int) = if o.f0 = 22 then (fnAt m o.f1).f1 else if o.f0 = 23 then f.f3 else 0) &&
      (below (if o.f0 = 23 then 1 else f.f4.length) [o.f9] && below (if o.f0 = 21 then f.f4.length else 1) [o.f10])))

/-- Which fields have which meaning: r, i, h, .. as numbers: what is the bound, and what the least. -/
inductive Sh where
  | any | dot | r | i | h | w | s | l | c | o | f | k | u | b | g
def shape (k : Int) : List Sh :=
  if k = 1 then [.r, .dot, .dot, .dot, .dot, .dot, .any] else if k = 2 then [.r, .i, .dot, .dot, .dot, .dot, .dot]
  else if k = 3 then [.r, .h, .dot, .dot, .dot, .dot, .dot] else if k = 4 then [.r, .r, .dot, .dot, .dot, .dot, .dot]
  else if k = 5 then [.r, .r, .dot, .dot, .dot, .dot, .u] else if k = 6 then [.r, .r, .r, .dot, .dot, .dot, .b]
  else if k = 7 then [.r, .w, .dot, .dot, .dot, .dot, .k] else if k = 8 then [.w, .r, .dot, .dot, .dot, .dot, .k]
  else if k = 9 then [.r, .s, .dot, .dot, .dot, .dot, .dot] else if k = 10 then [.r, .r, .r, .dot, .dot, .dot, .dot]
  else if k = 11 then [.r, .r, .g, .dot, .dot, .dot, .k] else if k = 12 then [.r, .g, .r, .dot, .dot, .dot, .k]
  else if k = 13 then [.r, .r, .r, .r, .dot, .dot, .dot] else if k = 14 then [.r, .r, .r, .r, .dot, .dot, .dot]
  else if k = 15 then [.r, .r, .r, .r, .r, .r, .dot] else if k = 16 then [.l, .dot, .dot, .dot, .dot, .dot, .dot]
  else if k = 17 then [.l, .dot, .dot, .dot, .dot, .dot, .dot] else if k = 18 then [.c, .r, .dot, .dot, .dot, .dot, .dot]
  else if k = 19 then [.r, .c, .dot, .dot, .dot, .dot, .dot] else if k = 20 then [.o, .r, .dot, .dot, .dot, .dot, .dot]
  else if k = 21 then [.r, .dot, .dot, .dot, .dot, .dot, .dot] else if k = 22 then [.f, .any, .dot, .dot, .dot, .dot, .any]
  else if k = 23 then [.dot, .dot, .dot, .dot, .dot, .dot, .dot] else []
def mostS (m : Md) (regs : Int) : Sh → Int
  | .any => 0 | .dot => 1 | .r => regs | .i => m.inputs.length | .h => m.hatches.length | .w => wordsM m | .s => m.structs.length
  | .l => m.locks.length | .c => m.chans.length | .o => m.sinks.length | .f => m.funcs.length | .k => 2 | .u => 3 | .b => 12 | .g => 16
def leastS : Sh → Int
  | .u => 1 | .b => 1 | _ => 0
def fitS (m : Md) (regs : Int) (sh : Sh) (v : Int) : Bool := match sh with
  | .any => true
  | z => decide (leastS z ≤ v) && decide (v < mostS m regs z)
def fitsS (m : Md) (regs : Int) : List Sh → List Int → Bool
  | sh :: ss, v :: vs => fitS m regs sh v && fitsS m regs ss vs
  | _, _ => true
/-- Is an operation right, as the document has it. -/
def refOp (m : Md) (f : S39) (o : S42) : Bool :=
  decide (1 ≤ o.f0 ∧ o.f0 ≤ 23) && (fitsS m f.f2 (shape o.f0) [o.f1, o.f2, o.f3, o.f4, o.f5, o.f6, o.f7] &&
    ((if o.f0 = 10 ∨ o.f0 = 15 then decide (o.f1 ≠ o.f2)
      else if o.f0 = 22 then (decide (o.f7 = 0) && decide (o.f2 = -1)) || (decide (o.f7 = (fnAt m o.f1).f3) && (decide (o.f7 ≠ 0) && (decide (0 ≤ o.f2) && (decide (o.f2 < f.f2) && decide (o.f2 ≤ f.f2 - o.f7)))))
      else true) &&
     (decide ((o.f8.length : Int) = if o.f0 = 22 then (fnAt m o.f1).f1 else if o.f0 = 23 then f.f3 else 0) &&
      (below f.f2 o.f8 &&
       (if o.f0 = 23 then decide (o.f9 = 0) && decide (o.f10 = 0)
        else decide (0 ≤ o.f9) && (decide (o.f9 < f.f4.length) && (if o.f0 = 21 then decide (0 ≤ o.f10) && decide (o.f10 < f.f4.length) else decide (o.f10 = 0))))))))
theorem fit_any (m : Md) (regs v : Int) : fitS m regs .any v = true := rfl
theorem fit_dot (m : Md) (regs v : Int) : fitS m regs .dot v = (decide (0 ≤ v) && decide (v < 1)) := rfl
theorem fit_r (m : Md) (regs v : Int) : fitS m regs .r v = (decide (0 ≤ v) && decide (v < regs)) := rfl
theorem fit_i (m : Md) (regs v : Int) : fitS m regs .i v = (decide (0 ≤ v) && decide (v < (m.inputs.length : Int))) := rfl
theorem fit_h (m : Md) (regs v : Int) : fitS m regs .h v = (decide (0 ≤ v) && decide (v < (m.hatches.length : Int))) := rfl
theorem fit_w (m : Md) (regs v : Int) : fitS m regs .w v = (decide (0 ≤ v) && decide (v < wordsM m)) := rfl
theorem fit_s (m : Md) (regs v : Int) : fitS m regs .s v = (decide (0 ≤ v) && decide (v < (m.structs.length : Int))) := rfl
theorem fit_l (m : Md) (regs v : Int) : fitS m regs .l v = (decide (0 ≤ v) && decide (v < (m.locks.length : Int))) := rfl
theorem fit_c (m : Md) (regs v : Int) : fitS m regs .c v = (decide (0 ≤ v) && decide (v < (m.chans.length : Int))) := rfl
theorem fit_o (m : Md) (regs v : Int) : fitS m regs .o v = (decide (0 ≤ v) && decide (v < (m.sinks.length : Int))) := rfl
theorem fit_f (m : Md) (regs v : Int) : fitS m regs .f v = (decide (0 ≤ v) && decide (v < (m.funcs.length : Int))) := rfl
theorem fit_k (m : Md) (regs v : Int) : fitS m regs .k v = (decide (0 ≤ v) && decide (v < 2)) := rfl
theorem fit_u (m : Md) (regs v : Int) : fitS m regs .u v = (decide (1 ≤ v) && decide (v < 3)) := rfl
theorem fit_b (m : Md) (regs v : Int) : fitS m regs .b v = (decide (1 ≤ v) && decide (v < 12)) := rfl
theorem fit_g (m : Md) (regs v : Int) : fitS m regs .g v = (decide (0 ≤ v) && decide (v < 16)) := rfl
theorem right_is (m : Md) (f : S39) (o : S42) : rightM m f o = refOp m f o := by
  by_cases hk : 1 ≤ o.f0 ∧ o.f0 ≤ 23
  · have : o.f0 = 1 ∨ o.f0 = 2 ∨ o.f0 = 3 ∨ o.f0 = 4 ∨ o.f0 = 5 ∨ o.f0 = 6 ∨ o.f0 = 7 ∨ o.f0 = 8 ∨ o.f0 = 9 ∨ o.f0 = 10 ∨ o.f0 = 11 ∨ o.f0 = 12 ∨ o.f0 = 13 ∨ o.f0 = 14 ∨ o.f0 = 15 ∨ o.f0 = 16 ∨ o.f0 = 17 ∨ o.f0 = 18 ∨ o.f0 = 19 ∨ o.f0 = 20 ∨ o.f0 = 21 ∨ o.f0 = 22 ∨ o.f0 = 23 := by omega
    rw [Bool.eq_iff_iff]
    unfold rightM refOp fieldsM othersM
    rcases this with h | h | h | h | h | h | h | h | h | h | h | h | h | h | h | h | h | h | h | h | h | h | h <;>
      (simp only [h, shape, fitsS, fit_any, fit_dot, fit_r, fit_i, fit_h, fit_w, fit_s, fit_l, fit_c, fit_o, fit_f, fit_k, fit_u, fit_b, fit_g, zero, below, List.all_cons, List.all_nil, Bool.and_true, Bool.and_eq_true, decide_eq_true_eq, Bool.or_eq_true, reduceIte, Int.reduceEq, or_self, or_false, false_or, or_true, true_or, Int.reduceLE, and_self, true_and]
       generalize (List.all o.f8 fun n => decide (0 ≤ n) && decide (n < f.f2)) = args
       cases args
       · simp only [Bool.false_and, Bool.and_false, Bool.false_eq_true, and_false, false_and]
       · simp only [true_and, and_true, Bool.true_and, Bool.and_true, Bool.and_eq_true, decide_eq_true_eq]
         constructor <;> intro hh <;> (try split at hh) <;> (try split) <;> (try simp only [Bool.and_eq_true, decide_eq_true_eq, Int.reduceNeg] at hh ⊢) <;> omega)
  · have h1 : refOp m f o = false := by unfold refOp; rw [decide_eq_false hk]; rfl
    have h2 : fieldsM m f.f2 (wordsM m) o = false := by
      unfold fieldsM othersM
      repeat rw [if_neg (by omega)]
    rw [h1]
    unfold rightM
    rw [h2]
    rfl
end Go.Proofs.YtdapiibllblpbaaDoor.Code
