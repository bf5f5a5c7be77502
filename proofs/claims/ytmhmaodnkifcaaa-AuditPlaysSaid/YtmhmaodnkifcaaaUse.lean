/-
  Small steps that carry facts on memory from one world to the next.
-/
import Derived.Test.YtmhmaodnkifcaaaBase
namespace Go.Proofs.Ytmhmaodnkifcaaa
open Go.RowKit

theorem below_go {w w1 w2 : World} (h : Below w.heap.size w w1) (h2 : Below w1.heap.size w1 w2) : Below w.heap.size w w2 := h.trans (h2.mono h.size)
theorem Sl.go {w w1 : World} {A : Option Addr} {xs : List Value} (s : Sl w w.heap.size A xs) (h : Below w.heap.size w w1) : Sl w1 w1.heap.size A xs := (s.below h).mono h.size
theorem below_new (w : World) (cs : Array Value) (t : TypeId) : Below w.heap.size w (w.alloc (.cells cs t)) := (Below.refl _ _).alloc (Nat.le_refl _) _
/-- A row of the call's own, made since the world w, after an append. -/
theorem below_app {w w1 w2 : World} {base : Nat} {e : TypeId} {size n : Nat} {v : Value} {xs : List Value} (h : Below w.heap.size w w1) (ho : w1.ownsRow base e size v n xs) (hb : w.heap.size ≤ base) (hg : w1.grownBy w2 v.ownBlock) : Below w.heap.size w w2 :=
  h.grown hg h.size fun k hk => Nat.le_trans hb (own_lt ho k hk)
/-- Two rows of the call's own, the second made when the first was there: they lie apart. -/
theorem own_apart {w w1 : World} {base base1 : Nat} {e e1 : TypeId} {size size1 n n1 : Nat} {v v1 : Value} {xs xs1 : List Value} (hy : w.ownsRow base e size v n xs) (hx : w1.ownsRow base1 e1 size1 v1 n1 xs1) (hb : w1.heap.size ≤ base) :
    v.ownBlock = none ∨ v.ownBlock ≠ v1.ownBlock := by
  rcases hv : v.ownBlock with _ | k
  · exact .inl rfl
  · right
    intro h
    have h1 := (hy.lt k hv).1
    have h2 := (hx.lt k h.symm).2
    omega
end Go.Proofs.Ytmhmaodnkifcaaa
