/-
  What the arguments of a law are told to be: bytes, numbers, rows of bytes. No program is named here.
-/
import Derived.Test.YtmhmaodnkifcaaaBase
import Derived.ProofKit
import Derived.OpenShut
import Derived.ChangeOld
import Derived.Deep.Matrix
namespace Go.Proofs.Ytmhmaodnkifcaaa
open Go.ChangeShapes Go.WideShapes Go.ChangeAt Go.RowKit

section
variable {H : Type} {enc : TypeId × Value → H} {P : Program} {W : World}

theorem sl_of_cells {a : Addr} {zs : List Value} (h : ∀ i, (hi : i < zs.length) → W.cell? (a.add i) = some zs[i]) : Sl W W.heap.size (some a) zs := by
  cases zs with
  | nil => exact .inl rfl
  | cons z zs =>
    obtain ⟨b, off, spot⟩ := a
    have h0 := h 0 (by simp)
    have hspot : spot = none := by simpa [Addr.add] using World.cell?_spot h0
    subst hspot
    refine .inr ⟨b, off, rfl, ?_, fun j u hu => ?_⟩
    · have := World.block_lt_of_cell? W _ h0
      simpa [Addr.add] using this
    · obtain ⟨hj, hu'⟩ := List.getElem?_eq_some_iff.1 hu
      have := h j hj
      rw [Addr.add_lit] at this
      rw [this, hu']

/-- A slice of integers. -/
theorem open_nums {t e : TypeId} {k : IntKind} {A : Option Addr} {n c : Nat} {d : DataW H} {p : List MemPlace} (ht : P.underlying t = some (.slice e)) (he : P.underlying e = some (.int k)) (hc : P.cellsOf e = 1)
    (h : DataW.Trod enc P W 0 (fun _ => true) true t (.slice A n c) d p) :
    ∃ zs : List Int, zs.length = n ∧ n ≤ c ∧ c ≤ maxLen ∧ (∀ z ∈ zs, (Lit.int k z).wf = true) ∧ Sl W W.heap.size A (zs.map (Value.int k)) := by
  obtain ⟨fuel, hf⟩ := h
  rcases open_ints ht he hc hf with ⟨hcs, _⟩ | ⟨x, l, c', zs, hcs, _, hl, hm, hz, _, hcell, hwz⟩
  · simp [Value.cells] at hcs
    obtain ⟨rfl, rfl, rfl⟩ := hcs
    exact ⟨[], rfl, Nat.le_refl _, Nat.zero_le _, by simp, .inl rfl⟩
  · simp [Value.cells] at hcs
    obtain ⟨rfl, rfl, rfl⟩ := hcs
    have hz' : zs.length = c := by simpa using hz
    refine ⟨zs.take n, by rw [List.length_take]; omega, hl, hm, fun z hz => hwz z (List.mem_of_mem_take hz), sl_of_cells fun i hi => ?_⟩
    have hi' : i < n ∧ i < zs.length := by simp at hi; omega
    rw [hcell i hi'.2]
    simp [List.getD, hi'.2]

/-- A slice of bytes. -/
theorem open_bytes {t e : TypeId} {A : Option Addr} {n c : Nat} {d : DataW H} {p : List MemPlace} (ht : P.underlying t = some (.slice e)) (he : P.underlying e = some (.int .u8)) (hc : P.cellsOf e = 1)
    (h : DataW.Trod enc P W 0 (fun _ => true) true t (.slice A n c) d p) :
    ∃ l : List UInt8, l.length = n ∧ n ≤ c ∧ c ≤ maxLen ∧ Sl W W.heap.size A (bys l) := by
  obtain ⟨zs, h1, h2, h3, h4, h5⟩ := open_nums ht he hc h
  obtain ⟨l, rfl⟩ := bytes_of_ints zs h4
  refine ⟨l, by simpa using h1, h2, h3, ?_⟩
  have e : bys l = (l.map fun c => (c.toNat : Int)).map (Value.int .u8) := by simp [bys, u8v]
  rw [e]
  exact h5

/-- The values vs are slices that hold the records ls. -/
def RowsOf (w : World) (B : Nat) (vs : List Value) (ls : List (List UInt8)) : Prop :=
  vs.length = ls.length ∧ ∀ k, (hk : k < ls.length) → ∃ A c, vs[k]? = some (.slice A ls[k].length c) ∧ ls[k].length ≤ c ∧ c ≤ maxLen ∧ Sl w B A (bys ls[k])

theorem RowsOf.keep {w w' : World} {B : Nat} {vs : List Value} {ls : List (List UInt8)} (h : RowsOf w B vs ls) (hk : ∀ p : Addr, p.block < B → w'.cell? p = w.cell? p) : RowsOf w' B vs ls :=
  ⟨h.1, fun k hlt => by
    obtain ⟨A, c, h1, h2, h3, h4⟩ := h.2 k hlt
    exact ⟨A, c, h1, h2, h3, h4.keep hk⟩⟩
theorem RowsOf.below {w w' : World} {B : Nat} {vs : List Value} {ls : List (List UInt8)} (h : RowsOf w B vs ls) (hb : Below B w w') : RowsOf w' B vs ls := h.keep fun _ hp => hb.cell hp
theorem RowsOf.mono {w : World} {B B' : Nat} {vs : List Value} {ls : List (List UInt8)} (h : RowsOf w B vs ls) (hB : B ≤ B') : RowsOf w B' vs ls :=
  ⟨h.1, fun k hlt => by
    obtain ⟨A, c, h1, h2, h3, h4⟩ := h.2 k hlt
    exact ⟨A, c, h1, h2, h3, h4.mono hB⟩⟩
theorem RowsOf.take {w : World} {B : Nat} {vs : List Value} {ls : List (List UInt8)} (h : RowsOf w B vs ls) (n : Nat) : RowsOf w B (vs.take n) (ls.take n) :=
  ⟨by simp [h.1], fun k hlt => by
    have hlt' : k < n ∧ k < ls.length := by simp at hlt; omega
    obtain ⟨A, c, h1, h2, h3, h4⟩ := h.2 k hlt'.2
    simp only [List.getElem_take]
    exact ⟨A, c, by rw [List.getElem?_take, if_pos hlt'.1]; exact h1, h2, h3, h4⟩⟩

/-- A slice of slices of bytes. -/
theorem open_rows {t e q : TypeId} {A : Option Addr} {n c : Nat} {d : DataW H} {p : List MemPlace} (ht : P.underlying t = some (.slice e)) (he : P.underlying e = some (.slice q)) (hq : P.underlying q = some (.int .u8))
    (ce : P.cellsOf e = 1) (cq : P.cellsOf q = 1) (h : DataW.Trod enc P W 0 (fun _ => true) true t (.slice A n c) d p) :
    ∃ (vs : List Value) (ls : List (List UInt8)), ls.length = n ∧ n ≤ c ∧ c ≤ maxLen ∧ Sl W W.heap.size A vs ∧ RowsOf W W.heap.size vs ls := by
  obtain ⟨fuel, hf⟩ := h
  rcases Deep.open_int_rows ht he hq ce cq hf with ⟨hcs, _⟩ | ⟨a, len, cap, AA, L, C, Z, hcs, _, hlc, hcm, _, hr⟩
  · simp [Value.cells] at hcs
    obtain ⟨rfl, rfl, rfl⟩ := hcs
    exact ⟨[], [], rfl, Nat.le_refl _, Nat.zero_le _, .inl rfl, rfl, fun k hk => by simp at hk⟩
  · simp [Value.cells] at hcs
    obtain ⟨rfl, rfl, rfl⟩ := hcs
    have key : ∀ r, ∃ l : List UInt8, r < c → l.length = L r ∧ Sl W W.heap.size (AA r) (bys l) := by
      intro r
      by_cases hrc : r < c
      · obtain ⟨h1, h2, h3, h4, h5, h6, h7⟩ := hr r hrc
        obtain ⟨l, hl⟩ := bytes_of_ints (Z r) h5
        have hlen : l.length = C r := by rw [← h4, hl]; simp
        refine ⟨l.take (L r), fun _ => ⟨by rw [List.length_take]; omega, ?_⟩⟩
        rw [bys_take]
        cases hA : AA r with
        | none =>
          have : C r = 0 := h6 hA
          have : l = [] := List.eq_nil_of_length_eq_zero (by omega)
          subst this
          exact .inl (by simp [bys])
        | some a' =>
          refine (sl_of_cells fun i hi => ?_).take _
          have hi' : i < l.length := by simpa using hi
          have := (h7 a' hA).2 i (by omega)
          rw [this, hl]
          simp [bys, u8v, List.getD, hi']
      · exact ⟨[], fun hx => absurd hx hrc⟩
    obtain ⟨l, hl⟩ : ∃ l : Nat → List UInt8, ∀ r, r < c → (l r).length = L r ∧ Sl W W.heap.size (AA r) (bys (l r)) := ⟨fun r => (key r).choose, fun r => (key r).choose_spec⟩
    refine ⟨(List.range n).map fun r => .slice (AA r) (L r) (C r), (List.range n).map l, by simp, hlc, hcm, sl_of_cells fun i hi => ?_, by simp, fun k hk => ?_⟩
    · have hi' : i < n := by simpa using hi
      rw [(hr i (by omega)).1]
      simp
    · have hk' : k < n := by simpa using hk
      obtain ⟨h1, h2, h3, _⟩ := hr k (by omega)
      obtain ⟨e1, e2⟩ := hl k (by omega)
      simp only [List.getElem_map, List.getElem_range]
      exact ⟨AA k, C k, by simp [hk', e1], by omega, h3, e2⟩
end
end Go.Proofs.Ytmhmaodnkifcaaa
