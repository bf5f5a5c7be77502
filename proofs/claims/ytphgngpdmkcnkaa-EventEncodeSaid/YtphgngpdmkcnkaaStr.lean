/-
  string(b) of bytes that are at hand.
-/
import Derived.Test.YtphgngpdmkcnkaaBase
import Derived.Test.YtphgngpdmkcnkaaProg
namespace Go.Proofs.Ytphgngpdmkcnkaa
open Go.RowKit

theorem str_any {w : World} {B : Nat} {A : Option Addr} {n c : Nat} {l : List UInt8} (h : Sl w B A (bys l)) (hn : l.length = n) :
    (convert 32 9 (.slice A n c)).run Try.prog w = .ok (.string (strOf l)) w :=
  run_str w 32 5 9 Try.underlying32 Try.underlying5 Try.underlying9 B A n c l hn h
theorem str_own {w : World} {base : Nat} {A : Option Addr} {n c : Nat} {l : List UInt8} (h : w.ownsRow base 5 1 (.slice A n c) n (bys l)) : (convert 32 9 (.slice A n c)).run Try.prog w = .ok (.string (strOf l)) w :=
  str_any (Sl.of_own h) (by have := h.1; simpa using this)
end Go.Proofs.Ytphgngpdmkcnkaa
