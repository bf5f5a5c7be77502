/-
  No cell of these rows narrows 'for every input' (looked for: loops, veiled, ifaces, maps, wideKeys, modest, calm, conditions, laid).
  DERIVED. THE GIVEN ROWS OF THIS SEAT. 5 by the template 'for every input the law returns true; each argument reads behind the call as it read before'; 0 by the template 'total and deterministic' (their statements: YtgmepgbdbkamlaaTotals.lean).
  GIVEN WITH THE SEED: the statements are not yours to turn. If you find one false, say at which input.
  Laid BY PROGRAM, IN A SANDBOX (cutbox-rows.mjs): the forced cells as the released guide's own fill.sh prints them over the translation f0d54cf85dd28cc7… (all of the seat's roots in one cut). By AI agents, Wed Nov 11 2026. No macro, syntax, notation, axiom, sorry.
-/
import Derived.Test.YtgmepgbdbkamlaaChecked
import GoSem.Claim
import GoSem.ClaimJoined
import GoSem.ClaimMapViews
import Derived.JoinedTies
import Derived.KernelRfl
namespace Go.Proofs.Ytgmepgbdbkamlaa
/- THE CELL 'sum', in the pinned program and in every row, IS THE sha256 OF THE DUMP (.gsa) THAT YtgmepgbdbkamlaaProg.lean LOADS. Nothing in Lean hashes anything: it is a label: what it is worth is what the hold of that sum in a sandbox is worth. -/
noncomputable def Try.pinned : Pinned := { name := "ytgmepgbdbkamlaa", sum := "f0d54cf85dd28cc745f8a6e4ccaabde992f0f593ba8485ffa8c7bd79124e90fa", checked := Try.checked }
namespace Rows
def none {H : Type} : Left H := { results := [], args := [] }

/-- 'pluginhostlaw19.InstrEncode': WHATEVER THE INPUT: true; the input reads as it did. -/
def instrEncodeSpec : ChangeSpec := { name := "instrEncode", fn := fun _ => fun
  | [d1, d2, d3] => { results := [.lit (.bool true)], args := [d1, d2, d3] }
  | _ => none }
def instrEncodeRow : OpenClaim := { program := "ytgmepgbdbkamlaa", sum := "f0d54cf85dd28cc745f8a6e4ccaabde992f0f593ba8485ffa8c7bd79124e90fa", func := "pluginhost/pluginhostlaw19.InstrEncode", spec := "instrEncode", apart := false }
def InstrEncodeSaid : Prop := instrEncodeRow.holds Try.pinned (OpenSpec.ofChange instrEncodeSpec)

/-- ITS FALSE NEIGHBOUR: 'it returns false'. Refute it at one input. -/
def instrEncodeWrong : ChangeSpec := { name := "instrEncode", fn := fun _ => fun
  | [d1, d2, d3] => { results := [.lit (.bool false)], args := [d1, d2, d3] }
  | _ => none }
def InstrEncodeWrongFalsely : Prop := instrEncodeRow.holds Try.pinned (OpenSpec.ofChange instrEncodeWrong)

/-- 'pluginhostlaw19.InstrNames': WHATEVER THE INPUT: true; the input reads as it did. -/
def instrNamesSpec : ChangeSpec := { name := "instrNames", fn := fun _ => fun
  | [d1, d2] => { results := [.lit (.bool true)], args := [d1, d2] }
  | _ => none }
def instrNamesRow : OpenClaim := { program := "ytgmepgbdbkamlaa", sum := "f0d54cf85dd28cc745f8a6e4ccaabde992f0f593ba8485ffa8c7bd79124e90fa", func := "pluginhost/pluginhostlaw19.InstrNames", spec := "instrNames", apart := false }
def InstrNamesSaid : Prop := instrNamesRow.holds Try.pinned (OpenSpec.ofChange instrNamesSpec)

/-- ITS FALSE NEIGHBOUR: 'it returns false'. Refute it at one input. -/
def instrNamesWrong : ChangeSpec := { name := "instrNames", fn := fun _ => fun
  | [d1, d2] => { results := [.lit (.bool false)], args := [d1, d2] }
  | _ => none }
def InstrNamesWrongFalsely : Prop := instrNamesRow.holds Try.pinned (OpenSpec.ofChange instrNamesWrong)

/-- 'pluginhostlaw19.InstrDecode': WHATEVER THE INPUT: true; the input reads as it did. -/
def instrDecodeSpec : ChangeSpec := { name := "instrDecode", fn := fun _ => fun
  | [d1, d2] => { results := [.lit (.bool true)], args := [d1, d2] }
  | _ => none }
def instrDecodeRow : OpenClaim := { program := "ytgmepgbdbkamlaa", sum := "f0d54cf85dd28cc745f8a6e4ccaabde992f0f593ba8485ffa8c7bd79124e90fa", func := "pluginhost/pluginhostlaw19.InstrDecode", spec := "instrDecode", apart := false }
def InstrDecodeSaid : Prop := instrDecodeRow.holds Try.pinned (OpenSpec.ofChange instrDecodeSpec)

/-- ITS FALSE NEIGHBOUR: 'it returns false'. Refute it at one input. -/
def instrDecodeWrong : ChangeSpec := { name := "instrDecode", fn := fun _ => fun
  | [d1, d2] => { results := [.lit (.bool false)], args := [d1, d2] }
  | _ => none }
def InstrDecodeWrongFalsely : Prop := instrDecodeRow.holds Try.pinned (OpenSpec.ofChange instrDecodeWrong)

/-- 'pluginhostlaw19.InstrBack': WHATEVER THE INPUT: true; the input reads as it did. -/
def instrBackSpec : ChangeSpec := { name := "instrBack", fn := fun _ => fun
  | [d1, d2, d3] => { results := [.lit (.bool true)], args := [d1, d2, d3] }
  | _ => none }
def instrBackRow : OpenClaim := { program := "ytgmepgbdbkamlaa", sum := "f0d54cf85dd28cc745f8a6e4ccaabde992f0f593ba8485ffa8c7bd79124e90fa", func := "pluginhost/pluginhostlaw19.InstrBack", spec := "instrBack", apart := false }
def InstrBackSaid : Prop := instrBackRow.holds Try.pinned (OpenSpec.ofChange instrBackSpec)

/-- ITS FALSE NEIGHBOUR: 'it returns false'. Refute it at one input. -/
def instrBackWrong : ChangeSpec := { name := "instrBack", fn := fun _ => fun
  | [d1, d2, d3] => { results := [.lit (.bool false)], args := [d1, d2, d3] }
  | _ => none }
def InstrBackWrongFalsely : Prop := instrBackRow.holds Try.pinned (OpenSpec.ofChange instrBackWrong)

/-- 'pluginhostlaw19.InstrTable': WHATEVER THE INPUT: true; the input reads as it did. -/
def instrTableSpec : ChangeSpec := { name := "instrTable", fn := fun _ => fun
  | [d1, d2] => { results := [.lit (.bool true)], args := [d1, d2] }
  | _ => none }
def instrTableRow : OpenClaim := { program := "ytgmepgbdbkamlaa", sum := "f0d54cf85dd28cc745f8a6e4ccaabde992f0f593ba8485ffa8c7bd79124e90fa", func := "pluginhost/pluginhostlaw19.InstrTable", spec := "instrTable", apart := false }
def InstrTableSaid : Prop := instrTableRow.holds Try.pinned (OpenSpec.ofChange instrTableSpec)

/-- ITS FALSE NEIGHBOUR: 'it returns false'. Refute it at one input. -/
def instrTableWrong : ChangeSpec := { name := "instrTable", fn := fun _ => fun
  | [d1, d2] => { results := [.lit (.bool false)], args := [d1, d2] }
  | _ => none }
def InstrTableWrongFalsely : Prop := instrTableRow.holds Try.pinned (OpenSpec.ofChange instrTableWrong)

/- THE SECOND FORM. 'bulk': how many values and letters a reading holds, each counted each time it is reached (what is shared counts as often as it is met; a slice's spare places count too). A statement '..UptoSaid' is the law's where the arguments, and the package variables that the reading takes, are together of bulk at most 1048576: NARROWER than '..Said'. Prove '..Said' where nothing that the law and all that it calls make is longer than what came in: it says more and counts as full. Else prove '..UptoSaid'. A law counts once. -/
mutual
def uptoBulk {H : Type} : DataW H → Nat
  | .lit (.string bytes) => bytes.length + 1
  | .lit _ => 1
  | .nil => 1
  | .ptr d => uptoBulk d + 1
  | .slice elems spare => uptoBulkAll elems + uptoBulkAll spare + 1
  | .agg parts => uptoBulkAll parts + 1
  | .iface _ d => uptoBulk d + 1
  | .map entries => uptoBulkEntries entries + 1
  | .held _ => 1
def uptoBulkAll {H : Type} : List (DataW H) → Nat
  | [] => 0
  | d :: r => uptoBulk d + uptoBulkAll r
def uptoBulkEntries {H : Type} : List (Lit × DataW H) → Nat
  | [] => 0
  | x :: r => uptoBulkEntry x + uptoBulkEntries r
def uptoBulkEntry {H : Type} : Lit × DataW H → Nat
  | (.string bytes, d) => bytes.length + uptoBulk d + 1
  | (_, d) => uptoBulk d + 1
 end
def uptoSmall : (H : Type) → List (DataW H) → Bool := fun _ ds => decide (uptoBulkAll ds ≤ 1048576)
def OpenSpec.upto (s : _root_.Go.ChangeSpec) : _root_.Go.OpenSpec := { _root_.Go.OpenSpec.ofChange s with cond := some uptoSmall }

/-- 'pluginhostlaw19.InstrEncode', WHERE WHAT IT READS IS OF BULK AT MOST 1048576: true; the input reads as it did. -/
def instrEncodeUptoRow : OpenClaim := { program := "ytgmepgbdbkamlaa", sum := "f0d54cf85dd28cc745f8a6e4ccaabde992f0f593ba8485ffa8c7bd79124e90fa", func := "pluginhost/pluginhostlaw19.InstrEncode", spec := "instrEncode", apart := false, narrowed := true }
def InstrEncodeUptoSaid : Prop := instrEncodeUptoRow.holds Try.pinned (OpenSpec.upto instrEncodeSpec)

/-- 'pluginhostlaw19.InstrNames', WHERE WHAT IT READS IS OF BULK AT MOST 1048576: true; the input reads as it did. -/
def instrNamesUptoRow : OpenClaim := { program := "ytgmepgbdbkamlaa", sum := "f0d54cf85dd28cc745f8a6e4ccaabde992f0f593ba8485ffa8c7bd79124e90fa", func := "pluginhost/pluginhostlaw19.InstrNames", spec := "instrNames", apart := false, narrowed := true }
def InstrNamesUptoSaid : Prop := instrNamesUptoRow.holds Try.pinned (OpenSpec.upto instrNamesSpec)

/-- 'pluginhostlaw19.InstrDecode', WHERE WHAT IT READS IS OF BULK AT MOST 1048576: true; the input reads as it did. -/
def instrDecodeUptoRow : OpenClaim := { program := "ytgmepgbdbkamlaa", sum := "f0d54cf85dd28cc745f8a6e4ccaabde992f0f593ba8485ffa8c7bd79124e90fa", func := "pluginhost/pluginhostlaw19.InstrDecode", spec := "instrDecode", apart := false, narrowed := true }
def InstrDecodeUptoSaid : Prop := instrDecodeUptoRow.holds Try.pinned (OpenSpec.upto instrDecodeSpec)

/-- 'pluginhostlaw19.InstrBack', WHERE WHAT IT READS IS OF BULK AT MOST 1048576: true; the input reads as it did. -/
def instrBackUptoRow : OpenClaim := { program := "ytgmepgbdbkamlaa", sum := "f0d54cf85dd28cc745f8a6e4ccaabde992f0f593ba8485ffa8c7bd79124e90fa", func := "pluginhost/pluginhostlaw19.InstrBack", spec := "instrBack", apart := false, narrowed := true }
def InstrBackUptoSaid : Prop := instrBackUptoRow.holds Try.pinned (OpenSpec.upto instrBackSpec)

/-- 'pluginhostlaw19.InstrTable', WHERE WHAT IT READS IS OF BULK AT MOST 1048576: true; the input reads as it did. -/
def instrTableUptoRow : OpenClaim := { program := "ytgmepgbdbkamlaa", sum := "f0d54cf85dd28cc745f8a6e4ccaabde992f0f593ba8485ffa8c7bd79124e90fa", func := "pluginhost/pluginhostlaw19.InstrTable", spec := "instrTable", apart := false, narrowed := true }
def InstrTableUptoSaid : Prop := instrTableUptoRow.holds Try.pinned (OpenSpec.upto instrTableSpec)

end Rows
end Go.Proofs.Ytgmepgbdbkamlaa
