/-
  An instruction as an argument, opened.
-/
import Derived.Test.YtgmepgbdbkamlaaOpen
import Derived.Test.YtgmepgbdbkamlaaProg
import Derived.Lib.SmallJoins
namespace Go.Proofs.Ytgmepgbdbkamlaa
open Go.ChangeShapes Go.WideShapes Go.ChangeAt Go.RowKit Go.Joins

theorem open_instr {H : Type} {enc : TypeId × Value → H} {W : World} {r : Reach} {b0 : Nat} {v : Value} {d : DataW H} {p : List MemPlace}
    (hv : Value.okWide Try.prog W r b0 24 v) (h : DataW.Trod enc Try.prog W 0 (fun _ => true) true 24 v d p) :
    ∃ o a : Int, v = .agg #[.int .i64 o, .int .u64 a] ∧ (Lit.int .i64 o).wf = true ∧ (Lit.int .u64 a).wf = true := by
  obtain ⟨v0, v1, y0, y1, n, rfl, _, _, h0, h1⟩ := open_agg2 Try.underlying24 (by kernel_rfl) (by kernel_rfl) hv h
  obtain ⟨o, ho, _, hwo⟩ := DataW.trod_int Try.underlying3 h0
  obtain ⟨a, ha, _, hwa⟩ := DataW.trod_int Try.underlying22 h1
  simp at ho ha
  subst ho ha
  exact ⟨o, a, rfl, hwo, hwa⟩
end Go.Proofs.Ytgmepgbdbkamlaa
