import Derived.Test.YtpbaebjohioijaaFoot
import Derived.Test.YtpbaebjohioijaaWy
import Derived.OpenShut
import Derived.Deep.Slices
namespace Go.Proofs.Ytpbaebjohioijaa
open Go.RowKit Go.ChangeShapes Go.WideShapes Go.Proofs.YtpbaebjohioijaaW.PrintWords
set_option linter.unusedVariables false

/-- What is read as a datum of type t is of the kind d, and G holds of it. -/
structure Opens {α : Type} (P : Program) (t : TypeId) (d : Kd α) (G : α → Prop) : Prop where
  sz : P.cellsOf t = d.sz
  out : ∀ {H : Type} (enc : TypeId × Value → H) (w : World) (base : Nat) (spare : Nat → Bool) (held : Bool) (fuel : Nat) (cs : List Value) (x : DataW H × List MemPlace),
    DataW.trod enc P w base spare held fuel t cs = some x → ∃ a, d.K w a cs ∧ G a

section
variable {P : Program}
theorem Opens.imp {α : Type} {t : TypeId} {d : Kd α} {G G' : α → Prop} (h : Opens P t d G) (hg : ∀ a, G a → G' a) : Opens P t d G' :=
  ⟨h.sz, fun enc w base spare held fuel cs x hx => let ⟨a, h1, h2⟩ := h.out enc w base spare held fuel cs x hx; ⟨a, h1, hg a h2⟩⟩
theorem opens_int {t : TypeId} {k : IntKind} (ht : P.underlying t = some (.int k)) (hs : P.cellsOf t = 1) : Opens P t (Kd.int k) (fun n => (Lit.int k n).wf = true) :=
  ⟨hs, fun enc w base spare held fuel cs x hx => by
    obtain ⟨n, rfl, rfl, hw⟩ := DataW.trod_int ht hx
    exact ⟨n, rfl, hw⟩⟩
theorem opens_bool {t : TypeId} (ht : P.underlying t = some .bool) (hs : P.cellsOf t = 1) : Opens P t Kd.bool (fun _ => True) :=
  ⟨hs, fun enc w base spare held fuel cs x hx => by
    obtain ⟨n, rfl, rfl⟩ := DataW.trod_bool ht hx
    exact ⟨n, rfl, trivial⟩⟩
theorem opens_string {t : TypeId} (ht : P.underlying t = some .string) (hs : P.cellsOf t = 1) : Opens P t Kd.string (fun s => s.size ≤ maxLen) :=
  ⟨hs, fun enc w base spare held fuel cs x hx => by
    obtain ⟨n, rfl, rfl, hw⟩ := DataW.trod_string ht hx
    exact ⟨n, rfl, hw⟩⟩
theorem opens_slice {α : Type} {t e : TypeId} {d : Kd α} {G : α → Prop} (ht : P.underlying t = some (.slice e)) (hs : P.cellsOf t = 1) (he : Opens P e d G) : Opens P t (Kd.slice e d) (fun xs => ∀ x ∈ xs, G x) :=
  ⟨hs, fun enc w base spare held fuel cs x hx => by
    rcases Go.Deep.open_slice ht hx with ⟨rfl, rfl⟩ | ⟨a, len, cap, m, n, D, Pl, rfl, _, hl, hm, hmm, rfl, hi⟩
    · exact ⟨[], ⟨none, 0, rfl, Nat.zero_le _, Kd.C_nil _ _⟩, by simp⟩
    · have hlm : len ≤ m := by rw [hmm]; split <;> omega
      have key : ∀ q, q ≤ len → ∃ xs : List α, xs.length = q ∧ (∀ x ∈ xs, G x) ∧ ∀ j p, xs[j]? = some p → ∃ c, c.length = d.sz ∧ d.K w p c ∧ ∀ i u, c[i]? = some u → w.cell? (a.add (j * d.sz + i)) = some u := by
        intro q
        induction q with
        | zero => exact fun _ => ⟨[], rfl, by simp, fun j p hj => by simp at hj⟩
        | succ q ih =>
          intro hq
          obtain ⟨xs, h1, h2, h3⟩ := ih (by omega)
          obtain ⟨cs', hc, htr⟩ := hi q (by omega)
          obtain ⟨y, hy, hg⟩ := he.out enc w base spare held n cs' _ htr
          obtain ⟨_, hcl, hat⟩ := World.cells?_some hc
          refine ⟨xs ++ [y], by simp [h1], ?_, ?_⟩
          · intro z hz
            rcases List.mem_append.1 hz with hz | hz
            · exact h2 z hz
            · rw [List.mem_singleton.1 hz]; exact hg
          · intro j p hj
            rcases Nat.lt_or_ge j xs.length with hlt | hge
            · rw [List.getElem?_append_left hlt] at hj
              exact h3 j p hj
            · rw [List.getElem?_append_right hge] at hj
              have hjq : j = q := by
                have := (List.getElem?_eq_some_iff.1 hj).1
                simp at this; omega
              subst hjq
              rw [h1, Nat.sub_self] at hj
              simp at hj
              subst hj
              refine ⟨cs', by rw [hcl, he.sz], hy, fun i u hu => ?_⟩
              have hil : i < P.cellsOf e := by rw [← hcl]; exact (List.getElem?_eq_some_iff.1 hu).1
              have h4 := hat i hil
              rw [hu] at h4
              rw [← h4, Go.Deep.add_add, he.sz]
      obtain ⟨xs, h1, h2, h3⟩ := key len (Nat.le_refl _)
      subst h1
      exact ⟨xs, ⟨some a, cap, rfl, hl, rfl, by simp only [maxLen] at hm; omega, fun _ => ⟨a, rfl, h3⟩⟩, h2⟩⟩
/-- Fields one behind the other, from cell off on, are of the kind d. -/
structure OpensF {α : Type} (P : Program) (fs : List Field) (off : Nat) (d : Kd α) (G : α → Prop) : Prop where
  out : ∀ {H : Type} (enc : TypeId × Value → H) (w : World) (base : Nat) (spare : Nat → Bool) (held : Bool) (cs : List Value), cs.length = off + d.sz →
    (∀ f ∈ fs, ∃ (fuel : Nat) (x : DataW H × List MemPlace), DataW.trod enc P w base spare held fuel f.type ((cs.drop f.offset).take (P.cellsOf f.type)) = some x) → ∃ a, d.K w a (cs.drop off) ∧ G a
theorem OpensF.one {α : Type} {f : Field} {off : Nat} {d : Kd α} {G : α → Prop} (ho : f.offset = off) (h : Opens P f.type d G) : OpensF P [f] off d G := by
  constructor
  intro H enc w base spare held cs hl hf
  obtain ⟨fuel, x, hx⟩ := hf f (List.mem_singleton.2 rfl)
  rw [ho, h.sz, List.take_of_length_le (by rw [List.length_drop]; omega)] at hx
  exact h.out enc w base spare held fuel _ x hx
theorem OpensF.cons {α β : Type} {f : Field} {fs : List Field} {off : Nat} {d : Kd α} {d' : Kd β} {G : α → Prop} {G' : β → Prop} (ho : f.offset = off) (h : Opens P f.type d G) (hs : OpensF P fs (off + d.sz) d' G') :
    OpensF P (f :: fs) off (Kd.pair d d') (fun x => G x.1 ∧ G' x.2) := by
  constructor
  intro H enc w base spare held cs hl hf
  have hl' : cs.length = off + d.sz + d'.sz := by rw [hl]; show off + (d.sz + d'.sz) = _; omega
  obtain ⟨fuel, x, hx⟩ := hf f List.mem_cons_self
  rw [ho, h.sz] at hx
  obtain ⟨a, h1, h2⟩ := h.out enc w base spare held fuel _ x hx
  obtain ⟨b, h3, h4⟩ := hs.out enc w base spare held cs hl' (fun g hg => hf g (List.mem_cons_of_mem _ hg))
  refine ⟨(a, b), ⟨_, _, ?_, h1, h3⟩, h2, h4⟩
  rw [← List.drop_drop, List.take_append_drop]
theorem opens_struct {α β : Type} {t : TypeId} {fs : Array Field} {d : Kd α} {G : α → Prop} (f : β → α) (g : α → β) (hfg : ∀ a, f (g a) = a) (ht : P.underlying t = some (.struct fs)) (hs : P.cellsOf t = d.sz) (hf : OpensF P fs.toList 0 d G) :
    Opens P t (Kd.iso d f) (fun x => G (f x)) :=
  ⟨hs, fun enc w base spare held fuel cs x hx => by
    obtain ⟨xs, n, _, _, hcl, hl, hget⟩ := DataW.trod_struct ht hx
    obtain ⟨a, h1, h2⟩ := hf.out enc w base spare held cs (by rw [hcl, hs]; omega) (fun fd hfd => by
      obtain ⟨i, hi⟩ := List.getElem?_of_mem hfd
      have h3 := hget i fd (by simpa using hi)
      have hil : i < xs.length := by rw [hl]; have := (List.getElem?_eq_some_iff.1 hi).1; simpa using this
      rw [List.getElem?_eq_getElem hil] at h3
      exact ⟨_, _, h3⟩)
    exact ⟨g a, by show d.K w (f (g a)) cs; rw [hfg]; exact h1, by rw [hfg]; exact h2⟩⟩
/-- An array of two. -/
theorem opens_array2 {α : Type} {t e : TypeId} {d : Kd α} {G : α → Prop} (ht : P.underlying t = some (.array 2 e)) (hs : P.cellsOf t = d.sz + d.sz) (he : Opens P e d G) : Opens P t (Kd.pair d d) (fun x => G x.1 ∧ G x.2) :=
  ⟨hs, fun enc w base spare held fuel cs x hx => by
    obtain ⟨xs, m, _, _, hcl, hl, hget⟩ := DataW.trod_array ht hx
    have g0 := hget 0 (by omega)
    have g1 := hget 1 (by omega)
    rw [List.getElem?_eq_getElem (by omega)] at g0 g1
    rw [Nat.zero_mul, List.drop_zero, he.sz] at g0
    rw [Nat.one_mul, he.sz, List.take_of_length_le (by rw [List.length_drop]; omega)] at g1
    obtain ⟨a, h1, h2⟩ := he.out enc w base spare held m _ _ g0
    obtain ⟨b, h3, h4⟩ := he.out enc w base spare held m _ _ g1
    exact ⟨(a, b), ⟨_, _, (List.take_append_drop _ _).symm, h1, h3⟩, h2, h4⟩⟩
end
/-- A slice parameter, opened. -/
theorem arg_slice {H : Type} {enc : TypeId × Value → H} {P : Program} {W : World} {base : Nat} {t e : TypeId} {α : Type} {d : Kd α} {G : α → Prop} (ht : P.underlying t = some (.slice e)) (ho : Opens P t (Kd.slice e d) (fun xs => ∀ x ∈ xs, G x)) {v : Value} (hv : Value.okWide P W .any base t v)
    {b : Nat} {sp : Nat → Bool} {hd : Bool} {x : DataW H} {p : List MemPlace} (h : DataW.Trod enc P W b sp hd t v x p) : ∃ (A : Option Addr) (c : Nat) (xs : List α), v = .slice A xs.length c ∧ xs.length ≤ c ∧ Kd.C d W A xs.length xs ∧ ∀ x ∈ xs, G x := by
  obtain ⟨a, len, cap, rfl⟩ := okWide_slice ht hv
  obtain ⟨fuel, hf⟩ := h
  obtain ⟨xs, ⟨A, c, he, hl, hc⟩, hg⟩ := ho.out enc W b sp hd fuel _ _ hf
  simp [Value.cells] at he
  obtain ⟨rfl, rfl, rfl⟩ := he
  exact ⟨_, _, xs, rfl, hl, hc, hg⟩
end Go.Proofs.Ytpbaebjohioijaa
