/-
  What an argument that is an array of integers is told to be. No program is named here.
-/
import Derived.Test.YtphgngpdmkcnkaaOpen
namespace Go.Proofs.Ytphgngpdmkcnkaa
open Go.ChangeShapes Go.WideShapes Go.ChangeAt Go.RowKit

theorem open_array {H : Type} {enc : TypeId × Value → H} {P : Program} {W : World} {r : Reach} {b0 t e N : Nat} {k : IntKind} {v : Value} {d : DataW H} {p : List MemPlace} (ht : P.underlying t = some (.array N e)) (he : P.underlying e = some (.int k)) (ce : P.cellsOf e = 1) (ct : P.cellsOf t = N)
    (hv : Value.okWide P W r b0 t v) (h : DataW.Trod enc P W 0 (fun _ => true) true t v d p) :
    ∃ zs : List Int, v = .agg (zs.map (Value.int k)).toArray ∧ zs.length = N ∧ ∀ z ∈ zs, (Lit.int k z).wf = true := by
  obtain ⟨cs, rfl, hsz, _⟩ : ∃ cs, v = .agg cs ∧ cs.size = P.cellsOf t ∧ Row.okWide P W r b0 t cs := by
    unfold Value.okWide at hv
    rw [ht] at hv
    exact hv
  obtain ⟨fuel, hf⟩ := h
  obtain ⟨xs, m, _, _, hlen, hxl, hx⟩ := DataW.trod_array ht hf
  rw [ce] at hx
  rw [ct] at hsz
  simp only [Value.cells] at hx
  have key : ∀ i, (hi : i < cs.toList.length) → ∃ n, cs.toList[i] = .int k n ∧ (Lit.int k n).wf = true := by
    intro i hi
    have hiN : i < N := by simpa [hsz] using hi
    have h1 := hx i hiN
    rw [Nat.mul_one, List.drop_eq_getElem_cons hi] at h1
    rw [List.getElem?_eq_getElem (by omega)] at h1
    obtain ⟨n, hn, _, hw⟩ := DataW.trod_int he h1
    simp at hn
    exact ⟨n, by simpa using hn, hw⟩
  have all : ∀ l : List Value, (∀ i, (hi : i < l.length) → ∃ n, l[i] = .int k n ∧ (Lit.int k n).wf = true) → ∃ zs : List Int, l = zs.map (Value.int k) ∧ ∀ z ∈ zs, (Lit.int k z).wf = true := by
    intro l
    induction l with
    | nil => intro _; exact ⟨[], rfl, by simp⟩
    | cons a l ih =>
      intro h
      obtain ⟨n, hn, hw⟩ := h 0 (by simp)
      obtain ⟨zs, hz, hzw⟩ := ih fun i hi => by
        obtain ⟨n, hn, hw⟩ := h (i + 1) (by simp; omega)
        exact ⟨n, by simpa using hn, hw⟩
      refine ⟨n :: zs, by simp only [List.map_cons, ← hz]; simpa using hn, fun z hz => ?_⟩
      rcases List.mem_cons.1 hz with rfl | hz
      · exact hw
      · exact hzw z hz
  obtain ⟨zs, hz, hw⟩ := all cs.toList key
  refine ⟨zs, ?_, ?_, hw⟩
  · rw [← hz]
  · have := congrArg List.length hz
    simp [hsz] at this
    exact this.symm
end Go.Proofs.Ytphgngpdmkcnkaa
