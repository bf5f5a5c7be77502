/-
  The words for memory at this seat's numbers: append onto bytes that the call made.
-/
import Derived.Test.YtmhmaodnkifcaaaBase
import Derived.Test.YtmhmaodnkifcaaaProg
namespace Go.Proofs.Ytmhmaodnkifcaaa
open Go.RowKit

theorem info_u8 : (Try.prog.info? 5).map (fun i => (i.zero, i.size, i.bytes)) = some (some (.int .u8 0), 1, 1) := by kernel_rfl

theorem wp_app8 {w : World} {ops : Array Oper} {rest : List Oper} {o : Oper} {a : Act} {Q : Exit → Act → World → Prop} (hgd : o.guard = none) (s x : Operand)
    (ho : o.op = .call { callee := .builtin .append, args := #[s, x], argTypes := #[38, 38] })
    (base : Nat) (A1 : Option Addr) (n c1 : Nat) (l1 : List UInt8) (hs : a.eval s = .slice A1 n c1) (hown : w.ownsRow base 5 1 (.slice A1 n c1) n (bys l1))
    (A2 : Option Addr) (B m c2 : Nat) (l2 : List UInt8) (hx : a.eval x = .slice A2 m c2) (hl : l2.length = m) (hsl : Sl w B A2 (bys l2)) (N : Nat) (hN : n + m = N) (hb : N ≤ 70368744177664) (hbase : base ≤ w.heap.size)
    (h : ∀ A' c' w', w'.ownsRow base 5 1 (.slice A' N c') N (bys (l1 ++ l2)) → w.grownBy w' (Value.slice A1 n c1).ownBlock →
      wpList Try.prog ops Q rest (a.put o.dst (.slice A' N c')) w') : wpList Try.prog ops Q (o :: rest) a w := by
  subst hN
  obtain ⟨i0, hi, hz0, hz1, hz2⟩ := info_parts info_u8
  refine wpList_app hgd s x 38 ho base 5 i0 (.int .u8 0) 1 1 Try.underlying38 hi hz0 hz1 hz2 rfl (by decide) _ n _ hs hown A2 B m c2 (bys l2) hx (by simp [hl]) hsl (bys_one _) (by unfold maxLen; omega) (by omega) hbase ?_
  intro A' c' w' h1 h2 _
  rw [← bys_append] at h1
  exact h A' c' w' h1 h2
end Go.Proofs.Ytmhmaodnkifcaaa
