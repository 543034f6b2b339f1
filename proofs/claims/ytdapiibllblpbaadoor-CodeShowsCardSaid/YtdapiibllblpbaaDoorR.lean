import Derived.Test.YtdapiibllblpbaaDoorP
namespace Go.Proofs.YtdapiibllblpbaaDoor.Code
open Go.RowKit Go.Proofs.YtdapiibllblpbaaDoorW.PrintWords Go.Proofs.YtdapiibllblpbaaDoorW.PrintLast Go.Proofs.YtdapiibllblpbaaDoorW.PrintMore Go.Proofs.YtdapiibllblpbaaDoor.PCodeAnswers
set_option linter.unusedVariables false
set_option linter.unusedSimpArgs false

/-! ### The builder -/
def Bld (sb : Nat) (l : List UInt8) (w : World) : Prop := Lib.IsBuilderF 67 5 sb sb (Lib.byteCells l) w
theorem bldAt_below {p : Value} {sb : Nat} {bs : List Value} {w w' : World} (h : Lib.BuilderAtF 67 5 sb sb p bs w) (b : Below w.heap.size w w') : Lib.BuilderAtF 67 5 sb sb p bs w' := by
  have hlt := h.lt
  obtain ⟨hB, v, hb, hown, hne⟩ := h
  exact ⟨hB, v, (b.block _ hlt).trans hb, hown.kept (row := none) (grown_of_below b none) (by cases hv : v.ownBlock <;> simp), hne⟩
theorem Bld.below {sb : Nat} {l : List UInt8} {w w' : World} (h : Bld sb l w) (b : Below w.heap.size w w') : Bld sb l w' :=
  h.elim (fun x => .inl (bldAt_below x b)) (fun x => .inr (bldAt_below x b))
theorem Bld.lt {sb : Nat} {l : List UInt8} {w : World} (h : Bld sb l w) : sb < w.heap.size := h.elim (fun x => x.lt) (fun x => x.lt)
theorem Bld.new (w : World) : Bld w.heap.size [] (w.alloc (.cells #[.pointer none, .slice none 0 0] 67)) :=
  .inl ⟨Nat.le_refl _, _, blk_new w _, World.ownsRowF_nil _ _ _ _, by simp [Value.ownBlock]⟩
/-- Every block but the builder's that is no row of bytes. -/
def Kept (sb : Nat) (w w' : World) : Prop := ∀ (k : Nat) (cs : Array Value) (t : TypeId), w.heap[k]? = some (.cells cs t (0, 0)) → k ≠ sb → t ≠ 5 → w'.heap[k]? = some (.cells cs t (0, 0))
theorem Tryd.Builder_WriteString_k (B b : Nat) (bs : List Value) (s : ByteArray) (w : World) (h : Lib.IsBuilderF 67 5 B b bs w) (hlen : bs.length + s.size ≤ 140737488355328) (hBw : B ≤ w.heap.size) :
    Calls Tryd.prog 39 #[.pointer (some ⟨b, 0, none⟩), .string s] w fun e w' => e = .returned (.tuple #[.int .i64 s.size, .nilIface]) ∧ (Lib.BuilderAtF 67 5 B b (.pointer (some ⟨b, 0, none⟩)) (bs ++ Lib.strCells s) w' ∧ Below B w w' ∧ Lib.OthersKept 5 (some b) w w') := Any.Builder_WriteString_k Tryd.lays166 Tryd.Builder_Extra_156 B b bs s w h hlen hBw
theorem write_any (sb : Nat) (l : List UInt8) (x : List UInt8) (w : World) (h : Bld sb l w) (hlen : l.length + x.length ≤ 140737488355328) :
    Calls Tryd.prog 39 #[.pointer (some ⟨sb, 0, none⟩), .string ⟨x.toArray⟩] w fun e w' => e = .returned (.tuple #[.int .i64 x.length, .nilIface]) ∧ Bld sb (l ++ x) w' ∧ Below sb w w' ∧ Kept sb w w' := by
  refine (Tryd.Builder_WriteString_k sb sb (Lib.byteCells l) ⟨x.toArray⟩ w h (by rw [Lib.byteCells_length]; simpa [ByteArray.size] using hlen) (Nat.le_of_lt h.lt)).mono ?_
  rintro e w' ⟨he, hb, hbel, hk⟩
  refine ⟨by rw [he]; simp [ByteArray.size], .inr ?_, hbel, fun k cs t hc hne ht => hk k _ hc (by simpa using hne) (fun c fz e => by cases e; exact ht rfl)⟩
  have e : Lib.byteCells (l ++ x) = Lib.byteCells l ++ Lib.strCells ⟨x.toArray⟩ := by simp [Lib.byteCells, Lib.strCells]
  rw [e]
  exact hb
theorem string_any (sb : Nat) (l : List UInt8) (w : World) (h : Bld sb l w) :
    Calls Tryd.prog 41 #[.pointer (some ⟨sb, 0, none⟩)] w fun e w' => e = .returned (.string ⟨l.toArray⟩) ∧ Below sb w w' :=
  (Tryd.Builder_String_any_f sb sb l w h (Nat.le_of_lt h.lt)).mono (fun e w' h => ⟨h.1, h.2.2⟩)
/-! ### How long a line is -/
theorem dec_len : ∀ (k u : Nat), u < 10 ^ (k + 1) → (Lib.decDigits u).length ≤ k + 1
  | 0, u, h => by
    unfold Lib.decDigits
    rw [dif_pos (by omega)]
    simp
  | k + 1, u, h => by
    unfold Lib.decDigits
    split
    · simp
    · have := dec_len k (u / 10) (by rw [Nat.pow_succ] at h; omega)
      simp
      omega
theorem itoa_len (v : Int) (h : wdOk (.num v)) : (Lib.itoa v).length ≤ 20 := by
  obtain ⟨h1, h2⟩ := h
  unfold Lib.itoa
  split
  · have := dec_len 18 v.natAbs (by omega)
    simp
    omega
  · have := dec_len 18 v.toNat (by omega)
    omega
def short (x : Wd) : Prop := (piece x).data.toList.length ≤ 20
theorem short_num (v : Int) (h : wdOk (.num v)) : short (.num v) := by
  unfold short piece
  simpa using itoa_len v h
theorem join_len (l : List (List UInt8)) (h : ∀ x ∈ l, x.length ≤ 20) : (Lib.join l [32]).length ≤ 21 * l.length := by
  unfold Lib.join
  induction l with
  | nil => simp [List.intercalate]
  | cons x t ih =>
    have hx := h x (List.mem_cons_self)
    have ht := ih (fun y hy => h y (List.mem_cons_of_mem _ hy))
    cases t with
    | nil => simp [List.intercalate]; omega
    | cons y t =>
      have e : [32].intercalate (x :: y :: t) = x ++ ([32] ++ [(32 : UInt8)].intercalate (y :: t)) := by simp [List.intercalate]
      rw [e]
      simp only [List.length_append, List.length_cons, List.length_nil] at ht ⊢
      omega
theorem join_short (l : List Wd) (h : ∀ x ∈ l, short x) : (Lib.join (l.map fun x => (piece x).data.toList) [32]).length ≤ 21 * l.length := by
  have := join_len (l.map fun x => (piece x).data.toList) (by
    intro x hx
    obtain ⟨y, hy, rfl⟩ := List.mem_map.1 hx
    exact h y hy)
  rwa [List.length_map] at this
theorem line_len (l : List Wd) (h : ∀ x ∈ l, short x) : (lineL l).length ≤ 21 * l.length + 1 := by
  unfold lineL
  rw [List.length_append]
  have := join_short l h
  simpa using this
/-! ### The text -/
def nms : List ByteArray := [⟨#[]⟩, ⟨#[99, 111, 110, 115, 116]⟩, ⟨#[105, 110, 112, 117, 116]⟩, ⟨#[114, 101, 108, 101, 97, 115, 101]⟩, ⟨#[109, 111, 118, 101]⟩, ⟨#[117, 110, 97, 114, 121]⟩, ⟨#[98, 105, 110, 97, 114, 121]⟩, ⟨#[108, 111, 97, 100]⟩, ⟨#[115, 116, 111, 114, 101]⟩, ⟨#[110, 101, 119]⟩, ⟨#[109, 97, 107, 101]⟩, ⟨#[103, 101, 116]⟩, ⟨#[112, 117, 116]⟩, ⟨#[105, 110, 100, 101, 120]⟩, ⟨#[101, 108, 101, 109]⟩, ⟨#[99, 117, 116]⟩, ⟨#[108, 111, 99, 107]⟩, ⟨#[117, 110, 108, 111, 99, 107]⟩, ⟨#[115, 101, 110, 100]⟩, ⟨#[114, 101, 99, 118]⟩, ⟨#[111, 117, 116]⟩, ⟨#[105, 102]⟩, ⟨#[99, 97, 108, 108]⟩, ⟨#[114, 101, 116, 117, 114, 110]⟩]
def nm (k : Int) : ByteArray := nms.getD k.toNat ⟨#[]⟩
theorem nm_len (k : Int) : (nm k).data.toList.length ≤ 20 := by
  have h : ∀ x ∈ nms, x.data.toList.length ≤ 20 := by decide
  unfold nm
  rw [List.getD_eq_getElem?_getD]
  rcases Nat.lt_or_ge k.toNat nms.length with hl | hl
  · rw [List.getElem?_eq_getElem hl]
    exact h _ (List.getElem_mem hl)
  · rw [List.getElem?_eq_none hl]
    simp
def arrow : ByteArray := ⟨#[45, 62]⟩
def opFirst (j : Int) (o : S42) : List Wd := [.num j, .txt (nm o.f0), .num o.f1, .num o.f2, .num o.f3, .num o.f4, .num o.f5, .num o.f6, .num o.f7]
def opL (j : Int) (o : S42) : List Wd := opFirst j o ++ o.f8.map .num ++ (if o.f0 ≠ 23 then [.txt arrow, .num o.f9] else []) ++ (if o.f0 = 21 then [.num o.f10] else [])
def fnL (k : Int) (f : S39) : List Wd := [.txt ⟨#[102, 117, 110, 99]⟩, .num k, .num f.f1, .num f.f2, .num f.f3]
def opsText (f : S39) (j : Nat) : List UInt8 := ((List.range j).map fun i : Nat => lineL (opL (i : Int) (rd_T42 f.f4 (i : Int)))).flatten
def fnText (k : Nat) (f : S39) : List UInt8 := lineL (fnL k f) ++ opsText f f.f4.length
def textM (m : Md) (k : Nat) : List UInt8 := ((List.range k).map fun i : Nat => fnText i (rd_T39 m.funcs (i : Int))).flatten
theorem opsText_next (f : S39) (j : Nat) : opsText f (j + 1) = opsText f j ++ lineL (opL j (rd_T42 f.f4 j)) := by
  unfold opsText
  rw [List.range_succ, List.map_append, List.flatten_append]
  simp
theorem textM_next (m : Md) (k : Nat) : textM m (k + 1) = textM m k ++ fnText k (rd_T39 m.funcs k) := by
  unfold textM
  rw [List.range_succ, List.map_append, List.flatten_append]
  simp
/-- Every number of an operation is one of 64 bits. -/
def opI (o : S42) : Prop := (∀ v ∈ [o.f1, o.f2, o.f3, o.f4, o.f5, o.f6, o.f7, o.f9, o.f10], wdOk (.num v)) ∧ ∀ v ∈ o.f8, wdOk (.num v)
def MdI (m : Md) : Prop := ∀ f ∈ m.funcs, ∀ o ∈ f.f4, opI o
theorem ok_small (n : Int) (h0 : 0 ≤ n) (h1 : n ≤ 1000000000) : wdOk (.num n) := ⟨by omega, by omega⟩
theorem opL_ok (j : Int) (o : S42) (h0 : 0 ≤ j) (h1 : j ≤ 1000000000) (hi : opI o) : ∀ x ∈ opL j o, wdOk x := by
  intro x hx
  unfold opL opFirst at hx
  simp only [List.mem_append, List.mem_cons, List.not_mem_nil, or_false, List.mem_map] at hx
  obtain ⟨a, b⟩ := hi
  rcases hx with ((hx | ⟨v, hv, rfl⟩) | hx) | hx
  · rcases hx with rfl | rfl | rfl | rfl | rfl | rfl | rfl | rfl | rfl
    · exact ok_small j h0 h1
    · trivial
    all_goals exact a _ (by simp)
  · exact b v hv
  · split at hx
    · simp only [List.mem_cons, List.not_mem_nil, or_false] at hx
      rcases hx with rfl | rfl
      · trivial
      · exact a _ (by simp)
    · cases hx
  · split at hx
    · simp only [List.mem_cons, List.not_mem_nil, or_false] at hx
      subst hx
      exact a _ (by simp)
    · cases hx
theorem short_of (x : Wd) (h : wdOk x) (ht : ∀ b, x = .txt b → b.data.toList.length ≤ 20) : short x := by
  cases x with
  | num v => exact short_num v h
  | txt b => exact ht b rfl
theorem opL_short (j : Int) (o : S42) (h0 : 0 ≤ j) (h1 : j ≤ 1000000000) (hi : opI o) : ∀ x ∈ opL j o, short x := by
  intro x hx
  refine short_of x (opL_ok j o h0 h1 hi x hx) ?_
  rintro b rfl
  unfold opL opFirst at hx
  simp only [List.mem_append, List.mem_cons, List.not_mem_nil, or_false, List.mem_map, reduceCtorEq, false_or, and_false, exists_false] at hx
  rcases hx with (hx | hx) | hx
  · cases hx
    exact nm_len _
  · split at hx
    · simp at hx
      subst hx
      decide
    · cases hx
  · split at hx
    · simp at hx
    · cases hx
theorem opL_length (j : Int) (o : S42) : (opL j o).length ≤ 12 + o.f8.length := by
  unfold opL opFirst
  simp only [List.length_append, List.length_cons, List.length_nil, List.length_map]
  split <;> split <;> simp <;> omega
theorem fnL_ok (k : Int) (f : S39) (h0 : 0 ≤ k) (h1 : k ≤ 1000000000) (hf : funcOk f = true) : ∀ x ∈ fnL k f, wdOk x := by
  have h := (funcOk_is f).1 hf
  intro x hx
  unfold fnL at hx
  simp only [List.mem_cons, List.not_mem_nil, or_false] at hx
  rcases hx with rfl | rfl | rfl | rfl | rfl
  · trivial
  all_goals exact ok_small _ (by omega) (by omega)
theorem fnL_short (k : Int) (f : S39) (h0 : 0 ≤ k) (h1 : k ≤ 1000000000) (hf : funcOk f = true) : ∀ x ∈ fnL k f, short x := by
  intro x hx
  refine short_of x (fnL_ok k f h0 h1 hf x hx) ?_
  rintro b rfl
  unfold fnL at hx
  simp at hx
  subst hx
  decide
theorem rd42_mem (l : List S42) (k : Nat) (hk : k < l.length) : rd_T42 l k ∈ l := by
  unfold rd_T42
  rw [Int.toNat_natCast, List.getD_eq_getElem?_getD, List.getElem?_eq_getElem hk]
  exact List.getElem_mem _
theorem opsText_len (f : S39) (hl : f.f4.length ≤ 4096) (hi : ∀ o ∈ f.f4, opI o) (hz : ∀ o ∈ f.f4, o.f8.length ≤ 1000000) : ∀ j, j ≤ f.f4.length → (opsText f j).length ≤ j * 22000000
  | 0, _ => by simp [opsText]
  | j + 1, h => by
    have ih := opsText_len f hl hi hz j (by omega)
    have hm := rd42_mem f.f4 j (by omega)
    have h1 := line_len _ (opL_short j (rd_T42 f.f4 j) (by omega) (by omega) (hi _ hm))
    have h2 := opL_length j (rd_T42 f.f4 j)
    have h3 := hz _ hm
    rw [opsText_next, List.length_append]
    omega
theorem textM_len (m : Md) (hall : m.funcs.all funcOk = true) (hn : m.funcs.length ≤ 12) (hi : MdI m) (hz : MdZ m) : ∀ k, k ≤ m.funcs.length → (textM m k).length ≤ k * 100000000000
  | 0, _ => by simp [textM]
  | k + 1, h => by
    have ih := textM_len m hall hn hi hz k (by omega)
    have hm := rd39_mem m.funcs k (by omega)
    have hf := List.all_eq_true.1 hall _ hm
    have hf4 := ((funcOk_is _).1 hf).2.2.2.2
    have h1 := line_len _ (fnL_short k (rd_T39 m.funcs k) (by omega) (by omega) hf)
    have h2 := opsText_len (rd_T39 m.funcs k) hf4 (hi _ hm) (hz _ hm) _ (Nat.le_refl _)
    have h3 : (fnL k (rd_T39 m.funcs k)).length = 5 := rfl
    rw [textM_next, List.length_append]
    unfold fnText
    rw [List.length_append]
    omega
end Go.Proofs.YtdapiibllblpbaaDoor.Code
