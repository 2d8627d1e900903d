/-
  No cell of these rows narrows 'for every input' (looked for: loops, veiled, ifaces, maps, wideKeys, modest, calm, conditions, laid).
  DERIVED. THE GIVEN ROWS OF THIS SEAT. 4 by the template 'for every input the law returns true; each argument reads behind the call as it read before'; 0 by the template 'total and deterministic' (their statements: YtofmcaagnhdecaaTotals.lean).
  GIVEN WITH THE SEED: the statements are not yours to turn. If you find one false, say at which input.
  Laid BY PROGRAM, IN A SANDBOX (cutbox-rows.mjs): the forced cells as the released guide's own fill.sh prints them over the translation e1ea6d5e532136ed… (all of the seat's roots in one cut). By AI agents, Wed Nov 11 2026. No macro, syntax, notation, axiom, sorry.
-/
import Derived.Test.YtofmcaagnhdecaaChecked
import GoSem.Claim
import GoSem.ClaimJoined
import GoSem.ClaimMapViews
import Derived.JoinedTies
import Derived.KernelRfl
namespace Go.Proofs.Ytofmcaagnhdecaa
/- THE CELL 'sum', in the pinned program and in every row, IS THE sha256 OF THE DUMP (.gsa) THAT YtofmcaagnhdecaaProg.lean LOADS. Nothing in Lean hashes anything: it is a label: what it is worth is what the hold of that sum in a sandbox is worth. -/
noncomputable def Try.pinned : Pinned := { name := "ytofmcaagnhdecaa", sum := "e1ea6d5e532136ede9f8db49f92539aee6a00bd767ee0054b20030ecec208ef8", checked := Try.checked }
namespace Rows
def none {H : Type} : Left H := { results := [], args := [] }

/-- 'seisinlaw28.DecodeReads': WHATEVER THE INPUT: true; the input reads as it did. -/
def decodeReadsSpec : ChangeSpec := { name := "decodeReads", fn := fun _ => fun
  | [d] => { results := [.lit (.bool true)], args := [d] }
  | _ => none }
def decodeReadsRow : OpenClaim := { program := "ytofmcaagnhdecaa", sum := "e1ea6d5e532136ede9f8db49f92539aee6a00bd767ee0054b20030ecec208ef8", func := "seisin/seisinlaw28.DecodeReads", spec := "decodeReads", unfollowed := true, recurses := true, apart := false }
def DecodeReadsSaid : Prop := decodeReadsRow.holds Try.pinned (OpenSpec.ofChange decodeReadsSpec)

/-- ITS FALSE NEIGHBOUR: 'it returns false'. Refute it at one input. -/
def decodeReadsWrong : ChangeSpec := { name := "decodeReads", fn := fun _ => fun
  | [d] => { results := [.lit (.bool false)], args := [d] }
  | _ => none }
def DecodeReadsWrongFalsely : Prop := decodeReadsRow.holds Try.pinned (OpenSpec.ofChange decodeReadsWrong)

/-- 'seisinlaw28.DecodeStrict': WHATEVER THE INPUT: true; the input reads as it did. -/
def decodeStrictSpec : ChangeSpec := { name := "decodeStrict", fn := fun _ => fun
  | [d1, d2, d3] => { results := [.lit (.bool true)], args := [d1, d2, d3] }
  | _ => none }
def decodeStrictRow : OpenClaim := { program := "ytofmcaagnhdecaa", sum := "e1ea6d5e532136ede9f8db49f92539aee6a00bd767ee0054b20030ecec208ef8", func := "seisin/seisinlaw28.DecodeStrict", spec := "decodeStrict", unfollowed := true, recurses := true, apart := false }
def DecodeStrictSaid : Prop := decodeStrictRow.holds Try.pinned (OpenSpec.ofChange decodeStrictSpec)

/-- ITS FALSE NEIGHBOUR: 'it returns false'. Refute it at one input. -/
def decodeStrictWrong : ChangeSpec := { name := "decodeStrict", fn := fun _ => fun
  | [d1, d2, d3] => { results := [.lit (.bool false)], args := [d1, d2, d3] }
  | _ => none }
def DecodeStrictWrongFalsely : Prop := decodeStrictRow.holds Try.pinned (OpenSpec.ofChange decodeStrictWrong)

/-- 'seisinlaw28.DecodeLays': WHATEVER THE INPUT: true; the input reads as it did. -/
def decodeLaysSpec : ChangeSpec := { name := "decodeLays", fn := fun _ => fun
  | [d] => { results := [.lit (.bool true)], args := [d] }
  | _ => none }
def decodeLaysRow : OpenClaim := { program := "ytofmcaagnhdecaa", sum := "e1ea6d5e532136ede9f8db49f92539aee6a00bd767ee0054b20030ecec208ef8", func := "seisin/seisinlaw28.DecodeLays", spec := "decodeLays", unfollowed := true, recurses := true, apart := false }
def DecodeLaysSaid : Prop := decodeLaysRow.holds Try.pinned (OpenSpec.ofChange decodeLaysSpec)

/-- ITS FALSE NEIGHBOUR: 'it returns false'. Refute it at one input. -/
def decodeLaysWrong : ChangeSpec := { name := "decodeLays", fn := fun _ => fun
  | [d] => { results := [.lit (.bool false)], args := [d] }
  | _ => none }
def DecodeLaysWrongFalsely : Prop := decodeLaysRow.holds Try.pinned (OpenSpec.ofChange decodeLaysWrong)

/-- 'seisinlaw28.DecodeBack': WHATEVER THE INPUT: true; the input reads as it did. -/
def decodeBackSpec : ChangeSpec := { name := "decodeBack", fn := fun _ => fun
  | [d1, d2] => { results := [.lit (.bool true)], args := [d1, d2] }
  | _ => none }
def decodeBackRow : OpenClaim := { program := "ytofmcaagnhdecaa", sum := "e1ea6d5e532136ede9f8db49f92539aee6a00bd767ee0054b20030ecec208ef8", func := "seisin/seisinlaw28.DecodeBack", spec := "decodeBack", unfollowed := true, recurses := true, apart := false }
def DecodeBackSaid : Prop := decodeBackRow.holds Try.pinned (OpenSpec.ofChange decodeBackSpec)

/-- ITS FALSE NEIGHBOUR: 'it returns false'. Refute it at one input. -/
def decodeBackWrong : ChangeSpec := { name := "decodeBack", fn := fun _ => fun
  | [d1, d2] => { results := [.lit (.bool false)], args := [d1, d2] }
  | _ => none }
def DecodeBackWrongFalsely : Prop := decodeBackRow.holds Try.pinned (OpenSpec.ofChange decodeBackWrong)

/- THE SECOND FORM. 'bulk': how many values and letters a reading holds, each counted each time it is reached (what is shared counts as often as it is met; a slice's spare places count too). A statement '..UptoSaid' is the law's where the arguments, and the package variables that the reading takes, are together of bulk at most 1048576: NARROWER than '..Said'. Prove '..Said' where nothing that the law and all that it calls make is longer than what came in: it says more and counts as full. Else prove '..UptoSaid'. A law counts once. -/
mutual
def uptoBulk {H : Type} : DataW H → Nat
  | .lit (.string bytes) => bytes.length + 1
  | .lit _ => 1
  | .nil => 1
  | .ptr d => uptoBulk d + 1
  | .slice elems spare => uptoBulkAll elems + uptoBulkAll spare + 1
  | .agg parts => uptoBulkAll parts + 1
  | .iface _ d => uptoBulk d + 1
  | .map entries => uptoBulkEntries entries + 1
  | .held _ => 1
def uptoBulkAll {H : Type} : List (DataW H) → Nat
  | [] => 0
  | d :: r => uptoBulk d + uptoBulkAll r
def uptoBulkEntries {H : Type} : List (Lit × DataW H) → Nat
  | [] => 0
  | x :: r => uptoBulkEntry x + uptoBulkEntries r
def uptoBulkEntry {H : Type} : Lit × DataW H → Nat
  | (.string bytes, d) => bytes.length + uptoBulk d + 1
  | (_, d) => uptoBulk d + 1
 end
def uptoSmall : (H : Type) → List (DataW H) → Bool := fun _ ds => decide (uptoBulkAll ds ≤ 1048576)
def OpenSpec.upto (s : _root_.Go.ChangeSpec) : _root_.Go.OpenSpec := { _root_.Go.OpenSpec.ofChange s with cond := some uptoSmall }

/-- 'seisinlaw28.DecodeReads', WHERE WHAT IT READS IS OF BULK AT MOST 1048576: true; the input reads as it did. -/
def decodeReadsUptoRow : OpenClaim := { program := "ytofmcaagnhdecaa", sum := "e1ea6d5e532136ede9f8db49f92539aee6a00bd767ee0054b20030ecec208ef8", func := "seisin/seisinlaw28.DecodeReads", spec := "decodeReads", unfollowed := true, recurses := true, apart := false, narrowed := true }
def DecodeReadsUptoSaid : Prop := decodeReadsUptoRow.holds Try.pinned (OpenSpec.upto decodeReadsSpec)

/-- 'seisinlaw28.DecodeStrict', WHERE WHAT IT READS IS OF BULK AT MOST 1048576: true; the input reads as it did. -/
def decodeStrictUptoRow : OpenClaim := { program := "ytofmcaagnhdecaa", sum := "e1ea6d5e532136ede9f8db49f92539aee6a00bd767ee0054b20030ecec208ef8", func := "seisin/seisinlaw28.DecodeStrict", spec := "decodeStrict", unfollowed := true, recurses := true, apart := false, narrowed := true }
def DecodeStrictUptoSaid : Prop := decodeStrictUptoRow.holds Try.pinned (OpenSpec.upto decodeStrictSpec)

/-- 'seisinlaw28.DecodeLays', WHERE WHAT IT READS IS OF BULK AT MOST 1048576: true; the input reads as it did. -/
def decodeLaysUptoRow : OpenClaim := { program := "ytofmcaagnhdecaa", sum := "e1ea6d5e532136ede9f8db49f92539aee6a00bd767ee0054b20030ecec208ef8", func := "seisin/seisinlaw28.DecodeLays", spec := "decodeLays", unfollowed := true, recurses := true, apart := false, narrowed := true }
def DecodeLaysUptoSaid : Prop := decodeLaysUptoRow.holds Try.pinned (OpenSpec.upto decodeLaysSpec)

/-- 'seisinlaw28.DecodeBack', WHERE WHAT IT READS IS OF BULK AT MOST 1048576: true; the input reads as it did. -/
def decodeBackUptoRow : OpenClaim := { program := "ytofmcaagnhdecaa", sum := "e1ea6d5e532136ede9f8db49f92539aee6a00bd767ee0054b20030ecec208ef8", func := "seisin/seisinlaw28.DecodeBack", spec := "decodeBack", unfollowed := true, recurses := true, apart := false, narrowed := true }
def DecodeBackUptoSaid : Prop := decodeBackUptoRow.holds Try.pinned (OpenSpec.upto decodeBackSpec)

end Rows
end Go.Proofs.Ytofmcaagnhdecaa
