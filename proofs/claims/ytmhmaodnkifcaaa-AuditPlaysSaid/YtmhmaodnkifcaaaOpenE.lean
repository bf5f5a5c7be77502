/-
  An event as an argument, opened: a struct whose fields are numbers.
-/
import Derived.Test.YtmhmaodnkifcaaaOpen
import Derived.Test.YtmhmaodnkifcaaaProg
import Derived.Lib.SmallJoins
namespace Go.Proofs.Ytmhmaodnkifcaaa
open Go.ChangeShapes Go.WideShapes Go.ChangeAt Go.RowKit Go.Joins Go.Deep

/-- Field number j of a struct all of whose fields are one cell: a number, if its type is one. -/
theorem field_num {H : Type} {enc : TypeId × Value → H} {P : Program} {W : World} {t : TypeId} {fs : Array Field} {l : List Value} {d : DataW H} {p : List MemPlace} (hs : P.underlying t = some (.struct fs)) (hone : oneCellFields P fs = true)
    (h : DataW.Trod enc P W 0 (fun _ => true) true t (.agg l.toArray) d p) (j : Nat) (f : Field) (k : IntKind) (c : Value) (hf : fs[j]? = some f) (hk : P.underlying f.type = some (.int k)) (hc : l[j]? = some c) :
    ∃ n : Int, c = .int k n ∧ (Lit.int k n).wf = true := by
  obtain ⟨fuel, h⟩ := h
  obtain ⟨ys, m, _, _, _, hy, hg⟩ := DataW.trod_struct hs h
  have hlt : j < ys.length := by
    obtain ⟨hj, _⟩ := Array.getElem?_eq_some_iff.1 hf
    omega
  have hone' := hone_of hone j f hf
  have h1 := hg j f hf
  rw [hone'.1, hone'.2, List.getElem?_eq_getElem hlt] at h1
  obtain ⟨hj, rfl⟩ := List.getElem?_eq_some_iff.1 hc
  have e : ((Value.agg l.toArray).cells.toList.drop j).take 1 = [l[j]] := by
    show (l.drop j).take 1 = _
    rw [List.drop_eq_getElem_cons hj]
    rfl
  rw [e] at h1
  obtain ⟨n, hn, _, hw⟩ := DataW.trod_int hk h1
  simp at hn
  exact ⟨n, hn, hw⟩

set_option maxRecDepth 100000 in
theorem open_event {H : Type} {enc : TypeId × Value → H} {W : World} {r : Reach} {b0 : Nat} {v : Value} {d : DataW H} {p : List MemPlace}
    (hv : Value.okWide Try.prog W r b0 36 v) (h : DataW.Trod enc Try.prog W 0 (fun _ => true) true 36 v d p) :
    ∃ z0 z1 z2 z3 z4 : Int, v = .agg #[.int .i64 z0, .int .i64 z1, .int .u64 z2, .int .u64 z3, .int .i64 z4] ∧ (Lit.int .i64 z0).wf = true ∧ (Lit.int .i64 z1).wf = true ∧ (Lit.int .u64 z2).wf = true ∧ (Lit.int .u64 z3).wf = true ∧ (Lit.int .i64 z4).wf = true := by
  obtain ⟨⟨l⟩, rfl, hsz⟩ := okWide_struct Try.underlying36 hv
  have h5 : l.length = 5 := hsz.trans (by kernel_rfl)
  have fld := field_num Try.underlying36 (by kernel_rfl) h
  match l, h5 with
  | [c0, c1, c2, c3, c4], _ =>
    obtain ⟨z0, rfl, w0⟩ := fld 0 _ .i64 c0 rfl Try.underlying3 rfl
    obtain ⟨z1, rfl, w1⟩ := fld 1 _ .i64 c1 rfl Try.underlying3 rfl
    obtain ⟨z2, rfl, w2⟩ := fld 2 _ .u64 c2 rfl Try.underlying34 rfl
    obtain ⟨z3, rfl, w3⟩ := fld 3 _ .u64 c3 rfl Try.underlying33 rfl
    obtain ⟨z4, rfl, w4⟩ := fld 4 _ .i64 c4 rfl Try.underlying29 rfl
    exact ⟨z0, z1, z2, z3, z4, rfl, w0, w1, w2, w3, w4⟩
end Go.Proofs.Ytmhmaodnkifcaaa
