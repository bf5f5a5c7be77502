/-
  No cell of these rows narrows 'for every input' (looked for: loops, veiled, ifaces, maps, wideKeys, modest, calm, conditions, laid).
  DERIVED. THE GIVEN ROWS OF THIS SEAT. 4 by the template 'for every input the law returns true; each argument reads behind the call as it read before'; 0 by the template 'total and deterministic' (their statements: YtcdpfpehjgppcaaTotals.lean).
  GIVEN WITH THE SEED: the statements are not yours to turn. If you find one false, say at which input.
  Laid BY PROGRAM, IN A SANDBOX (cutbox-rows.mjs): the forced cells as the released guide's own fill.sh prints them over the translation a5997266e8bdc87b… (all of the seat's roots in one cut). By AI agents, Wed Nov 11 2026. No macro, syntax, notation, axiom, sorry.
-/
import Derived.Test.YtcdpfpehjgppcaaChecked
import GoSem.Claim
import GoSem.ClaimJoined
import GoSem.ClaimMapViews
import Derived.JoinedTies
import Derived.KernelRfl
namespace Go.Proofs.Ytcdpfpehjgppcaa
/- THE CELL 'sum', in the pinned program and in every row, IS THE sha256 OF THE DUMP (.gsa) THAT YtcdpfpehjgppcaaProg.lean LOADS. Nothing in Lean hashes anything: it is a label: what it is worth is what the hold of that sum in a sandbox is worth. -/
noncomputable def Try.pinned : Pinned := { name := "ytcdpfpehjgppcaa", sum := "a5997266e8bdc87b1f898d1d16c9f153487c428b9059325338587ff01c24ee86", checked := Try.checked }
namespace Rows
def none {H : Type} : Left H := { results := [], args := [] }

/-- 'pluginhostlaw26.SchedPick': WHATEVER THE INPUT: true; the input reads as it did. -/
def schedPickSpec : ChangeSpec := { name := "schedPick", fn := fun _ => fun
  | [d1, d2, d3] => { results := [.lit (.bool true)], args := [d1, d2, d3] }
  | _ => none }
def schedPickRow : OpenClaim := { program := "ytcdpfpehjgppcaa", sum := "a5997266e8bdc87b1f898d1d16c9f153487c428b9059325338587ff01c24ee86", func := "pluginhost/pluginhostlaw26.SchedPick", spec := "schedPick", unfollowed := true, recurses := true, apart := false }
def SchedPickSaid : Prop := schedPickRow.holds Try.pinned (OpenSpec.ofChange schedPickSpec)

/-- ITS FALSE NEIGHBOUR: 'it returns false'. Refute it at one input. -/
def schedPickWrong : ChangeSpec := { name := "schedPick", fn := fun _ => fun
  | [d1, d2, d3] => { results := [.lit (.bool false)], args := [d1, d2, d3] }
  | _ => none }
def SchedPickWrongFalsely : Prop := schedPickRow.holds Try.pinned (OpenSpec.ofChange schedPickWrong)

/-- 'pluginhostlaw26.SchedRunnable': WHATEVER THE INPUT: true; the input reads as it did. -/
def schedRunnableSpec : ChangeSpec := { name := "schedRunnable", fn := fun _ => fun
  | [d1, d2, d3] => { results := [.lit (.bool true)], args := [d1, d2, d3] }
  | _ => none }
def schedRunnableRow : OpenClaim := { program := "ytcdpfpehjgppcaa", sum := "a5997266e8bdc87b1f898d1d16c9f153487c428b9059325338587ff01c24ee86", func := "pluginhost/pluginhostlaw26.SchedRunnable", spec := "schedRunnable", unfollowed := true, recurses := true, apart := false }
def SchedRunnableSaid : Prop := schedRunnableRow.holds Try.pinned (OpenSpec.ofChange schedRunnableSpec)

/-- ITS FALSE NEIGHBOUR: 'it returns false'. Refute it at one input. -/
def schedRunnableWrong : ChangeSpec := { name := "schedRunnable", fn := fun _ => fun
  | [d1, d2, d3] => { results := [.lit (.bool false)], args := [d1, d2, d3] }
  | _ => none }
def SchedRunnableWrongFalsely : Prop := schedRunnableRow.holds Try.pinned (OpenSpec.ofChange schedRunnableWrong)

/-- 'pluginhostlaw26.SchedEach': WHATEVER THE INPUT: true; the input reads as it did. -/
def schedEachSpec : ChangeSpec := { name := "schedEach", fn := fun _ => fun
  | [d] => { results := [.lit (.bool true)], args := [d] }
  | _ => none }
def schedEachRow : OpenClaim := { program := "ytcdpfpehjgppcaa", sum := "a5997266e8bdc87b1f898d1d16c9f153487c428b9059325338587ff01c24ee86", func := "pluginhost/pluginhostlaw26.SchedEach", spec := "schedEach", unfollowed := true, recurses := true, apart := false }
def SchedEachSaid : Prop := schedEachRow.holds Try.pinned (OpenSpec.ofChange schedEachSpec)

/-- ITS FALSE NEIGHBOUR: 'it returns false'. Refute it at one input. -/
def schedEachWrong : ChangeSpec := { name := "schedEach", fn := fun _ => fun
  | [d] => { results := [.lit (.bool false)], args := [d] }
  | _ => none }
def SchedEachWrongFalsely : Prop := schedEachRow.holds Try.pinned (OpenSpec.ofChange schedEachWrong)

/-- 'pluginhostlaw26.SchedTurns': WHATEVER THE INPUT: true; the input reads as it did. -/
def schedTurnsSpec : ChangeSpec := { name := "schedTurns", fn := fun _ => fun
  | [d1, d2] => { results := [.lit (.bool true)], args := [d1, d2] }
  | _ => none }
def schedTurnsRow : OpenClaim := { program := "ytcdpfpehjgppcaa", sum := "a5997266e8bdc87b1f898d1d16c9f153487c428b9059325338587ff01c24ee86", func := "pluginhost/pluginhostlaw26.SchedTurns", spec := "schedTurns", unfollowed := true, recurses := true, apart := false }
def SchedTurnsSaid : Prop := schedTurnsRow.holds Try.pinned (OpenSpec.ofChange schedTurnsSpec)

/-- ITS FALSE NEIGHBOUR: 'it returns false'. Refute it at one input. -/
def schedTurnsWrong : ChangeSpec := { name := "schedTurns", fn := fun _ => fun
  | [d1, d2] => { results := [.lit (.bool false)], args := [d1, d2] }
  | _ => none }
def SchedTurnsWrongFalsely : Prop := schedTurnsRow.holds Try.pinned (OpenSpec.ofChange schedTurnsWrong)

/- THE SECOND FORM. 'bulk': how many values and letters a reading holds, each counted each time it is reached (what is shared counts as often as it is met; a slice's spare places count too). A statement '..UptoSaid' is the law's where the arguments, and the package variables that the reading takes, are together of bulk at most 1048576: NARROWER than '..Said'. Prove '..Said' where nothing that the law and all that it calls make is longer than what came in: it says more and counts as full. Else prove '..UptoSaid'. A law counts once. -/
mutual
def uptoBulk {H : Type} : DataW H → Nat
  | .lit (.string bytes) => bytes.length + 1
  | .lit _ => 1
  | .nil => 1
  | .ptr d => uptoBulk d + 1
  | .slice elems spare => uptoBulkAll elems + uptoBulkAll spare + 1
  | .agg parts => uptoBulkAll parts + 1
  | .iface _ d => uptoBulk d + 1
  | .map entries => uptoBulkEntries entries + 1
  | .held _ => 1
def uptoBulkAll {H : Type} : List (DataW H) → Nat
  | [] => 0
  | d :: r => uptoBulk d + uptoBulkAll r
def uptoBulkEntries {H : Type} : List (Lit × DataW H) → Nat
  | [] => 0
  | x :: r => uptoBulkEntry x + uptoBulkEntries r
def uptoBulkEntry {H : Type} : Lit × DataW H → Nat
  | (.string bytes, d) => bytes.length + uptoBulk d + 1
  | (_, d) => uptoBulk d + 1
 end
def uptoSmall : (H : Type) → List (DataW H) → Bool := fun _ ds => decide (uptoBulkAll ds ≤ 1048576)
def OpenSpec.upto (s : _root_.Go.ChangeSpec) : _root_.Go.OpenSpec := { _root_.Go.OpenSpec.ofChange s with cond := some uptoSmall }

/-- 'pluginhostlaw26.SchedPick', WHERE WHAT IT READS IS OF BULK AT MOST 1048576: true; the input reads as it did. -/
def schedPickUptoRow : OpenClaim := { program := "ytcdpfpehjgppcaa", sum := "a5997266e8bdc87b1f898d1d16c9f153487c428b9059325338587ff01c24ee86", func := "pluginhost/pluginhostlaw26.SchedPick", spec := "schedPick", unfollowed := true, recurses := true, apart := false, narrowed := true }
def SchedPickUptoSaid : Prop := schedPickUptoRow.holds Try.pinned (OpenSpec.upto schedPickSpec)

/-- 'pluginhostlaw26.SchedRunnable', WHERE WHAT IT READS IS OF BULK AT MOST 1048576: true; the input reads as it did. -/
def schedRunnableUptoRow : OpenClaim := { program := "ytcdpfpehjgppcaa", sum := "a5997266e8bdc87b1f898d1d16c9f153487c428b9059325338587ff01c24ee86", func := "pluginhost/pluginhostlaw26.SchedRunnable", spec := "schedRunnable", unfollowed := true, recurses := true, apart := false, narrowed := true }
def SchedRunnableUptoSaid : Prop := schedRunnableUptoRow.holds Try.pinned (OpenSpec.upto schedRunnableSpec)

/-- 'pluginhostlaw26.SchedEach', WHERE WHAT IT READS IS OF BULK AT MOST 1048576: true; the input reads as it did. -/
def schedEachUptoRow : OpenClaim := { program := "ytcdpfpehjgppcaa", sum := "a5997266e8bdc87b1f898d1d16c9f153487c428b9059325338587ff01c24ee86", func := "pluginhost/pluginhostlaw26.SchedEach", spec := "schedEach", unfollowed := true, recurses := true, apart := false, narrowed := true }
def SchedEachUptoSaid : Prop := schedEachUptoRow.holds Try.pinned (OpenSpec.upto schedEachSpec)

/-- 'pluginhostlaw26.SchedTurns', WHERE WHAT IT READS IS OF BULK AT MOST 1048576: true; the input reads as it did. -/
def schedTurnsUptoRow : OpenClaim := { program := "ytcdpfpehjgppcaa", sum := "a5997266e8bdc87b1f898d1d16c9f153487c428b9059325338587ff01c24ee86", func := "pluginhost/pluginhostlaw26.SchedTurns", spec := "schedTurns", unfollowed := true, recurses := true, apart := false, narrowed := true }
def SchedTurnsUptoSaid : Prop := schedTurnsUptoRow.holds Try.pinned (OpenSpec.upto schedTurnsSpec)

end Rows
end Go.Proofs.Ytcdpfpehjgppcaa
