/-
  Events in a slice: five cells each; append of one.
-/
import Derived.Test.YtmhmaodnkifcaaaBase
import Derived.Test.YtmhmaodnkifcaaaAuSpec
namespace Go.Proofs.Ytmhmaodnkifcaaa
open Go.RowKit

/-- An event's cells. -/
def evc (e : Ev) : List Value := [.int .i64 (e.1 : Int), .int .i64 (e.2.1 : Int), .int .u64 (e.2.2.1 : Int), .int .u64 (e.2.2.2.1 : Int), .int .i64 (e.2.2.2.2 : Int)]
/-- Events, one behind the other. -/
def evs (es : List Ev) : List Value := es.flatMap evc
theorem evs_len (es : List Ev) : (evs es).length = es.length * 5 := by
  induction es with
  | nil => rfl
  | cons e es ih => simp only [evs, List.flatMap_cons, List.length_append, List.length_cons] at *; rw [ih]; simp [evc]; omega
theorem evs_snoc (es : List Ev) (e : Ev) : evs (es ++ [e]) = evs es ++ evc e := by simp [evs]
theorem evs_append (a b : List Ev) : evs (a ++ b) = evs a ++ evs b := by simp [evs]
theorem evc_one (e : Ev) : ∀ u ∈ evc e, u.oneCell' = true := by
  intro u hu
  simp [evc] at hu
  rcases hu with rfl | rfl | rfl | rfl | rfl <;> rfl
theorem info_ev : (Try.prog.info? 36).map (fun i => (i.zero, i.size, i.bytes)) = some (some (.agg #[.int .i64 0, .int .i64 0, .int .u64 0, .int .u64 0, .int .i64 0]), 5, 40) := by kernel_rfl

theorem wp_appE {w : World} {ops : Array Oper} {rest : List Oper} {o : Oper} {a : Act} {Q : Exit → Act → World → Prop} (hgd : o.guard = none) (s x : Operand)
    (ho : o.op = .call { callee := .builtin .append, args := #[s, x], argTypes := #[24, 24] })
    (base : Nat) (A1 : Option Addr) (n c1 : Nat) (es : List Ev) (hs : a.eval s = .slice A1 n c1) (hown : w.ownsRow base 36 5 (.slice A1 n c1) n (evs es))
    (A2 : Option Addr) (B c2 : Nat) (e : Ev) (hx : a.eval x = .slice A2 1 c2) (hsl : Sl w B A2 (evc e)) (N : Nat) (hN : n + 1 = N) (hb : N ≤ 1000000) (hbase : base ≤ w.heap.size)
    (h : ∀ A' c' w', w'.ownsRow base 36 5 (.slice A' N c') N (evs (es ++ [e])) → w.grownBy w' (Value.slice A1 n c1).ownBlock →
      wpList Try.prog ops Q rest (a.put o.dst (.slice A' N c')) w') : wpList Try.prog ops Q (o :: rest) a w := by
  subst hN
  obtain ⟨i0, hi, hz0, hz1, hz2⟩ := info_parts info_ev
  refine wpList_app hgd s x 24 ho base 36 i0 _ 5 40 Try.underlying24 hi hz0 hz1 hz2 rfl (by decide) _ n _ hs hown A2 B 1 c2 (evc e) hx rfl hsl (evc_one e) (by unfold maxLen; omega) (by omega) hbase ?_
  intro A' c' w' h1 h2 _
  rw [← evs_snoc] at h1
  exact h A' c' w' h1 h2

/-- A cell of a row of events. -/
theorem evs_get (es : List Ev) : ∀ (k : Nat) (e : Ev) (j : Nat) (v : Value), es[k]? = some e → (evc e)[j]? = some v → (evs es)[k * 5 + j]? = some v := by
  induction es with
  | nil => intro k e j v hk _; simp at hk
  | cons x es ih =>
    intro k e j v hk hv
    have ec : evs (x :: es) = evc x ++ evs es := by simp [evs]
    rw [ec]
    cases k with
    | zero =>
      simp at hk
      subst hk
      rw [Nat.zero_mul, Nat.zero_add, List.getElem?_append_left (List.getElem?_eq_some_iff.1 hv).1]
      exact hv
    | succ k =>
      have h5 : (evc x).length = 5 := rfl
      rw [List.getElem?_append_right (by omega), h5, show (k + 1) * 5 + j - 5 = k * 5 + j by omega]
      exact ih k e j v (by simpa using hk) hv
end Go.Proofs.Ytmhmaodnkifcaaa
