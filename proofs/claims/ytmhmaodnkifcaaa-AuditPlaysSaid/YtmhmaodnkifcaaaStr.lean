/-
  string(b) of bytes that are at hand.
-/
import Derived.Test.YtmhmaodnkifcaaaBase
import Derived.Test.YtmhmaodnkifcaaaProg
namespace Go.Proofs.Ytmhmaodnkifcaaa
open Go.RowKit

theorem str_any {w : World} {B : Nat} {A : Option Addr} {n c : Nat} {l : List UInt8} (h : Sl w B A (bys l)) (hn : l.length = n) :
    (convert 38 9 (.slice A n c)).run Try.prog w = .ok (.string (strOf l)) w :=
  run_str w 38 5 9 Try.underlying38 Try.underlying5 Try.underlying9 B A n c l hn h
theorem str_own {w : World} {base : Nat} {A : Option Addr} {n c : Nat} {l : List UInt8} (h : w.ownsRow base 5 1 (.slice A n c) n (bys l)) : (convert 38 9 (.slice A n c)).run Try.prog w = .ok (.string (strOf l)) w :=
  str_any (Sl.of_own h) (by have := h.1; simpa using this)
end Go.Proofs.Ytmhmaodnkifcaaa
