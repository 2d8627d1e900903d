/-
  No cell of these rows narrows 'for every input' (looked for: loops, veiled, ifaces, maps, wideKeys, modest, calm, conditions, laid).
  DERIVED. THE GIVEN ROWS OF THIS SEAT. 10 by the template 'for every input the law returns true; each argument reads behind the call as it read before'; 0 by the template 'total and deterministic' (their statements: YtfjhchcnhmafkaaTotals.lean).
  GIVEN WITH THE SEED: the statements are not yours to turn. If you find one false, say at which input.
  Laid BY PROGRAM, IN A SANDBOX (cutbox-rows.mjs): the forced cells as the released guide's own fill.sh prints them over the translation 83b24d77fdafd016… (all of the seat's roots in one cut). By AI agents, Wed Nov 11 2026. No macro, syntax, notation, axiom, sorry.
-/
import Derived.Test.YtfjhchcnhmafkaaChecked
import GoSem.Claim
import GoSem.ClaimJoined
import GoSem.ClaimMapViews
import Derived.JoinedTies
import Derived.KernelRfl
namespace Go.Proofs.Ytfjhchcnhmafkaa
/- THE CELL 'sum', in the pinned program and in every row, IS THE sha256 OF THE DUMP (.gsa) THAT YtfjhchcnhmafkaaProg.lean LOADS. Nothing in Lean hashes anything: it is a label: what it is worth is what the hold of that sum in a sandbox is worth. -/
noncomputable def Try.pinned : Pinned := { name := "ytfjhchcnhmafkaa", sum := "83b24d77fdafd016408c9206a41a36bf00348da83bdf22e2a6254b29bf59952a", checked := Try.checked }
namespace Rows
def none {H : Type} : Left H := { results := [], args := [] }

/-- 'seisinlaw6.TlbLast': WHATEVER THE INPUT: true; the input reads as it did. -/
def tlbLastSpec : ChangeSpec := { name := "tlbLast", fn := fun _ => fun
  | [d1, d2, d3, d4] => { results := [.lit (.bool true)], args := [d1, d2, d3, d4] }
  | _ => none }
def tlbLastRow : OpenClaim := { program := "ytfjhchcnhmafkaa", sum := "83b24d77fdafd016408c9206a41a36bf00348da83bdf22e2a6254b29bf59952a", func := "seisin/seisinlaw6.TlbLast", spec := "tlbLast", unfollowed := true, recurses := true, apart := false }
def TlbLastSaid : Prop := tlbLastRow.holds Try.pinned (OpenSpec.ofChange tlbLastSpec)

/-- ITS FALSE NEIGHBOUR: 'it returns false'. Refute it at one input. -/
def tlbLastWrong : ChangeSpec := { name := "tlbLast", fn := fun _ => fun
  | [d1, d2, d3, d4] => { results := [.lit (.bool false)], args := [d1, d2, d3, d4] }
  | _ => none }
def TlbLastWrongFalsely : Prop := tlbLastRow.holds Try.pinned (OpenSpec.ofChange tlbLastWrong)

/-- 'seisinlaw2.PhysCopies': WHATEVER THE INPUT: true; the input reads as it did. -/
def physCopiesSpec : ChangeSpec := { name := "physCopies", fn := fun _ => fun
  | [d1, d2] => { results := [.lit (.bool true)], args := [d1, d2] }
  | _ => none }
def physCopiesRow : OpenClaim := { program := "ytfjhchcnhmafkaa", sum := "83b24d77fdafd016408c9206a41a36bf00348da83bdf22e2a6254b29bf59952a", func := "seisin/seisinlaw2.PhysCopies", spec := "physCopies", unfollowed := true, recurses := true, apart := false }
def PhysCopiesSaid : Prop := physCopiesRow.holds Try.pinned (OpenSpec.ofChange physCopiesSpec)

/-- ITS FALSE NEIGHBOUR: 'it returns false'. Refute it at one input. -/
def physCopiesWrong : ChangeSpec := { name := "physCopies", fn := fun _ => fun
  | [d1, d2] => { results := [.lit (.bool false)], args := [d1, d2] }
  | _ => none }
def PhysCopiesWrongFalsely : Prop := physCopiesRow.holds Try.pinned (OpenSpec.ofChange physCopiesWrong)

/-- 'seisinlaw2.PhysKeeps': WHATEVER THE INPUT: true; the input reads as it did. -/
def physKeepsSpec : ChangeSpec := { name := "physKeeps", fn := fun _ => fun
  | [d1, d2, d3, d4, d5] => { results := [.lit (.bool true)], args := [d1, d2, d3, d4, d5] }
  | _ => none }
def physKeepsRow : OpenClaim := { program := "ytfjhchcnhmafkaa", sum := "83b24d77fdafd016408c9206a41a36bf00348da83bdf22e2a6254b29bf59952a", func := "seisin/seisinlaw2.PhysKeeps", spec := "physKeeps", unfollowed := true, recurses := true, apart := false }
def PhysKeepsSaid : Prop := physKeepsRow.holds Try.pinned (OpenSpec.ofChange physKeepsSpec)

/-- ITS FALSE NEIGHBOUR: 'it returns false'. Refute it at one input. -/
def physKeepsWrong : ChangeSpec := { name := "physKeeps", fn := fun _ => fun
  | [d1, d2, d3, d4, d5] => { results := [.lit (.bool false)], args := [d1, d2, d3, d4, d5] }
  | _ => none }
def PhysKeepsWrongFalsely : Prop := physKeepsRow.holds Try.pinned (OpenSpec.ofChange physKeepsWrong)

/-- 'seisinlaw6.TlbFilled': WHATEVER THE INPUT: true; the input reads as it did. -/
def tlbFilledSpec : ChangeSpec := { name := "tlbFilled", fn := fun _ => fun
  | [d1, d2] => { results := [.lit (.bool true)], args := [d1, d2] }
  | _ => none }
def tlbFilledRow : OpenClaim := { program := "ytfjhchcnhmafkaa", sum := "83b24d77fdafd016408c9206a41a36bf00348da83bdf22e2a6254b29bf59952a", func := "seisin/seisinlaw6.TlbFilled", spec := "tlbFilled", unfollowed := true, recurses := true, apart := false }
def TlbFilledSaid : Prop := tlbFilledRow.holds Try.pinned (OpenSpec.ofChange tlbFilledSpec)

/-- ITS FALSE NEIGHBOUR: 'it returns false'. Refute it at one input. -/
def tlbFilledWrong : ChangeSpec := { name := "tlbFilled", fn := fun _ => fun
  | [d1, d2] => { results := [.lit (.bool false)], args := [d1, d2] }
  | _ => none }
def TlbFilledWrongFalsely : Prop := tlbFilledRow.holds Try.pinned (OpenSpec.ofChange tlbFilledWrong)

/-- 'seisinlaw6.TlbDropped': WHATEVER THE INPUT: true; the input reads as it did. -/
def tlbDroppedSpec : ChangeSpec := { name := "tlbDropped", fn := fun _ => fun
  | [d1, d2, d3, d4] => { results := [.lit (.bool true)], args := [d1, d2, d3, d4] }
  | _ => none }
def tlbDroppedRow : OpenClaim := { program := "ytfjhchcnhmafkaa", sum := "83b24d77fdafd016408c9206a41a36bf00348da83bdf22e2a6254b29bf59952a", func := "seisin/seisinlaw6.TlbDropped", spec := "tlbDropped", unfollowed := true, recurses := true, apart := false }
def TlbDroppedSaid : Prop := tlbDroppedRow.holds Try.pinned (OpenSpec.ofChange tlbDroppedSpec)

/-- ITS FALSE NEIGHBOUR: 'it returns false'. Refute it at one input. -/
def tlbDroppedWrong : ChangeSpec := { name := "tlbDropped", fn := fun _ => fun
  | [d1, d2, d3, d4] => { results := [.lit (.bool false)], args := [d1, d2, d3, d4] }
  | _ => none }
def TlbDroppedWrongFalsely : Prop := tlbDroppedRow.holds Try.pinned (OpenSpec.ofChange tlbDroppedWrong)

/-- 'seisinlaw6.TlbOnce': WHATEVER THE INPUT: true; the input reads as it did. -/
def tlbOnceSpec : ChangeSpec := { name := "tlbOnce", fn := fun _ => fun
  | [d] => { results := [.lit (.bool true)], args := [d] }
  | _ => none }
def tlbOnceRow : OpenClaim := { program := "ytfjhchcnhmafkaa", sum := "83b24d77fdafd016408c9206a41a36bf00348da83bdf22e2a6254b29bf59952a", func := "seisin/seisinlaw6.TlbOnce", spec := "tlbOnce", unfollowed := true, recurses := true, apart := false }
def TlbOnceSaid : Prop := tlbOnceRow.holds Try.pinned (OpenSpec.ofChange tlbOnceSpec)

/-- ITS FALSE NEIGHBOUR: 'it returns false'. Refute it at one input. -/
def tlbOnceWrong : ChangeSpec := { name := "tlbOnce", fn := fun _ => fun
  | [d] => { results := [.lit (.bool false)], args := [d] }
  | _ => none }
def TlbOnceWrongFalsely : Prop := tlbOnceRow.holds Try.pinned (OpenSpec.ofChange tlbOnceWrong)

/-- 'seisinlaw6.TlbScript': WHATEVER THE INPUT: true; the input reads as it did. -/
def tlbScriptSpec : ChangeSpec := { name := "tlbScript", fn := fun _ => fun
  | [d] => { results := [.lit (.bool true)], args := [d] }
  | _ => none }
def tlbScriptRow : OpenClaim := { program := "ytfjhchcnhmafkaa", sum := "83b24d77fdafd016408c9206a41a36bf00348da83bdf22e2a6254b29bf59952a", func := "seisin/seisinlaw6.TlbScript", spec := "tlbScript", unfollowed := true, recurses := true, apart := false }
def TlbScriptSaid : Prop := tlbScriptRow.holds Try.pinned (OpenSpec.ofChange tlbScriptSpec)

/-- ITS FALSE NEIGHBOUR: 'it returns false'. Refute it at one input. -/
def tlbScriptWrong : ChangeSpec := { name := "tlbScript", fn := fun _ => fun
  | [d] => { results := [.lit (.bool false)], args := [d] }
  | _ => none }
def TlbScriptWrongFalsely : Prop := tlbScriptRow.holds Try.pinned (OpenSpec.ofChange tlbScriptWrong)

/-- 'seisinlaw6.TlbNone': WHATEVER THE INPUT: true; the input reads as it did. -/
def tlbNoneSpec : ChangeSpec := { name := "tlbNone", fn := fun _ => fun
  | [d1, d2, d3] => { results := [.lit (.bool true)], args := [d1, d2, d3] }
  | _ => none }
def tlbNoneRow : OpenClaim := { program := "ytfjhchcnhmafkaa", sum := "83b24d77fdafd016408c9206a41a36bf00348da83bdf22e2a6254b29bf59952a", func := "seisin/seisinlaw6.TlbNone", spec := "tlbNone", unfollowed := true, recurses := true, apart := false }
def TlbNoneSaid : Prop := tlbNoneRow.holds Try.pinned (OpenSpec.ofChange tlbNoneSpec)

/-- ITS FALSE NEIGHBOUR: 'it returns false'. Refute it at one input. -/
def tlbNoneWrong : ChangeSpec := { name := "tlbNone", fn := fun _ => fun
  | [d1, d2, d3] => { results := [.lit (.bool false)], args := [d1, d2, d3] }
  | _ => none }
def TlbNoneWrongFalsely : Prop := tlbNoneRow.holds Try.pinned (OpenSpec.ofChange tlbNoneWrong)

/-- 'seisinlaw2.PhysScript': WHATEVER THE INPUT: true; the input reads as it did. -/
def physScriptSpec : ChangeSpec := { name := "physScript", fn := fun _ => fun
  | [d1, d2] => { results := [.lit (.bool true)], args := [d1, d2] }
  | _ => none }
def physScriptRow : OpenClaim := { program := "ytfjhchcnhmafkaa", sum := "83b24d77fdafd016408c9206a41a36bf00348da83bdf22e2a6254b29bf59952a", func := "seisin/seisinlaw2.PhysScript", spec := "physScript", unfollowed := true, recurses := true, apart := false }
def PhysScriptSaid : Prop := physScriptRow.holds Try.pinned (OpenSpec.ofChange physScriptSpec)

/-- ITS FALSE NEIGHBOUR: 'it returns false'. Refute it at one input. -/
def physScriptWrong : ChangeSpec := { name := "physScript", fn := fun _ => fun
  | [d1, d2] => { results := [.lit (.bool false)], args := [d1, d2] }
  | _ => none }
def PhysScriptWrongFalsely : Prop := physScriptRow.holds Try.pinned (OpenSpec.ofChange physScriptWrong)

/-- 'seisinlaw2.PhysNone': WHATEVER THE INPUT: true; the input reads as it did. -/
def physNoneSpec : ChangeSpec := { name := "physNone", fn := fun _ => fun
  | [d1, d2, d3] => { results := [.lit (.bool true)], args := [d1, d2, d3] }
  | _ => none }
def physNoneRow : OpenClaim := { program := "ytfjhchcnhmafkaa", sum := "83b24d77fdafd016408c9206a41a36bf00348da83bdf22e2a6254b29bf59952a", func := "seisin/seisinlaw2.PhysNone", spec := "physNone", unfollowed := true, recurses := true, apart := false }
def PhysNoneSaid : Prop := physNoneRow.holds Try.pinned (OpenSpec.ofChange physNoneSpec)

/-- ITS FALSE NEIGHBOUR: 'it returns false'. Refute it at one input. -/
def physNoneWrong : ChangeSpec := { name := "physNone", fn := fun _ => fun
  | [d1, d2, d3] => { results := [.lit (.bool false)], args := [d1, d2, d3] }
  | _ => none }
def PhysNoneWrongFalsely : Prop := physNoneRow.holds Try.pinned (OpenSpec.ofChange physNoneWrong)

/- THE SECOND FORM. 'bulk': how many values and letters a reading holds, each counted each time it is reached (what is shared counts as often as it is met; a slice's spare places count too). A statement '..UptoSaid' is the law's where the arguments, and the package variables that the reading takes, are together of bulk at most 1048576: NARROWER than '..Said'. Prove '..Said' where nothing that the law and all that it calls make is longer than what came in: it says more and counts as full. Else prove '..UptoSaid'. A law counts once. -/
mutual
def uptoBulk {H : Type} : DataW H → Nat
  | .lit (.string bytes) => bytes.length + 1
  | .lit _ => 1
  | .nil => 1
  | .ptr d => uptoBulk d + 1
  | .slice elems spare => uptoBulkAll elems + uptoBulkAll spare + 1
  | .agg parts => uptoBulkAll parts + 1
  | .iface _ d => uptoBulk d + 1
  | .map entries => uptoBulkEntries entries + 1
  | .held _ => 1
def uptoBulkAll {H : Type} : List (DataW H) → Nat
  | [] => 0
  | d :: r => uptoBulk d + uptoBulkAll r
def uptoBulkEntries {H : Type} : List (Lit × DataW H) → Nat
  | [] => 0
  | x :: r => uptoBulkEntry x + uptoBulkEntries r
def uptoBulkEntry {H : Type} : Lit × DataW H → Nat
  | (.string bytes, d) => bytes.length + uptoBulk d + 1
  | (_, d) => uptoBulk d + 1
 end
def uptoSmall : (H : Type) → List (DataW H) → Bool := fun _ ds => decide (uptoBulkAll ds ≤ 1048576)
def OpenSpec.upto (s : _root_.Go.ChangeSpec) : _root_.Go.OpenSpec := { _root_.Go.OpenSpec.ofChange s with cond := some uptoSmall }

/-- 'seisinlaw6.TlbLast', WHERE WHAT IT READS IS OF BULK AT MOST 1048576: true; the input reads as it did. -/
def tlbLastUptoRow : OpenClaim := { program := "ytfjhchcnhmafkaa", sum := "83b24d77fdafd016408c9206a41a36bf00348da83bdf22e2a6254b29bf59952a", func := "seisin/seisinlaw6.TlbLast", spec := "tlbLast", unfollowed := true, recurses := true, apart := false, narrowed := true }
def TlbLastUptoSaid : Prop := tlbLastUptoRow.holds Try.pinned (OpenSpec.upto tlbLastSpec)

/-- 'seisinlaw2.PhysCopies', WHERE WHAT IT READS IS OF BULK AT MOST 1048576: true; the input reads as it did. -/
def physCopiesUptoRow : OpenClaim := { program := "ytfjhchcnhmafkaa", sum := "83b24d77fdafd016408c9206a41a36bf00348da83bdf22e2a6254b29bf59952a", func := "seisin/seisinlaw2.PhysCopies", spec := "physCopies", unfollowed := true, recurses := true, apart := false, narrowed := true }
def PhysCopiesUptoSaid : Prop := physCopiesUptoRow.holds Try.pinned (OpenSpec.upto physCopiesSpec)

/-- 'seisinlaw2.PhysKeeps', WHERE WHAT IT READS IS OF BULK AT MOST 1048576: true; the input reads as it did. -/
def physKeepsUptoRow : OpenClaim := { program := "ytfjhchcnhmafkaa", sum := "83b24d77fdafd016408c9206a41a36bf00348da83bdf22e2a6254b29bf59952a", func := "seisin/seisinlaw2.PhysKeeps", spec := "physKeeps", unfollowed := true, recurses := true, apart := false, narrowed := true }
def PhysKeepsUptoSaid : Prop := physKeepsUptoRow.holds Try.pinned (OpenSpec.upto physKeepsSpec)

/-- 'seisinlaw6.TlbFilled', WHERE WHAT IT READS IS OF BULK AT MOST 1048576: true; the input reads as it did. -/
def tlbFilledUptoRow : OpenClaim := { program := "ytfjhchcnhmafkaa", sum := "83b24d77fdafd016408c9206a41a36bf00348da83bdf22e2a6254b29bf59952a", func := "seisin/seisinlaw6.TlbFilled", spec := "tlbFilled", unfollowed := true, recurses := true, apart := false, narrowed := true }
def TlbFilledUptoSaid : Prop := tlbFilledUptoRow.holds Try.pinned (OpenSpec.upto tlbFilledSpec)

/-- 'seisinlaw6.TlbDropped', WHERE WHAT IT READS IS OF BULK AT MOST 1048576: true; the input reads as it did. -/
def tlbDroppedUptoRow : OpenClaim := { program := "ytfjhchcnhmafkaa", sum := "83b24d77fdafd016408c9206a41a36bf00348da83bdf22e2a6254b29bf59952a", func := "seisin/seisinlaw6.TlbDropped", spec := "tlbDropped", unfollowed := true, recurses := true, apart := false, narrowed := true }
def TlbDroppedUptoSaid : Prop := tlbDroppedUptoRow.holds Try.pinned (OpenSpec.upto tlbDroppedSpec)

/-- 'seisinlaw6.TlbOnce', WHERE WHAT IT READS IS OF BULK AT MOST 1048576: true; the input reads as it did. -/
def tlbOnceUptoRow : OpenClaim := { program := "ytfjhchcnhmafkaa", sum := "83b24d77fdafd016408c9206a41a36bf00348da83bdf22e2a6254b29bf59952a", func := "seisin/seisinlaw6.TlbOnce", spec := "tlbOnce", unfollowed := true, recurses := true, apart := false, narrowed := true }
def TlbOnceUptoSaid : Prop := tlbOnceUptoRow.holds Try.pinned (OpenSpec.upto tlbOnceSpec)

/-- 'seisinlaw6.TlbScript', WHERE WHAT IT READS IS OF BULK AT MOST 1048576: true; the input reads as it did. -/
def tlbScriptUptoRow : OpenClaim := { program := "ytfjhchcnhmafkaa", sum := "83b24d77fdafd016408c9206a41a36bf00348da83bdf22e2a6254b29bf59952a", func := "seisin/seisinlaw6.TlbScript", spec := "tlbScript", unfollowed := true, recurses := true, apart := false, narrowed := true }
def TlbScriptUptoSaid : Prop := tlbScriptUptoRow.holds Try.pinned (OpenSpec.upto tlbScriptSpec)

/-- 'seisinlaw6.TlbNone', WHERE WHAT IT READS IS OF BULK AT MOST 1048576: true; the input reads as it did. -/
def tlbNoneUptoRow : OpenClaim := { program := "ytfjhchcnhmafkaa", sum := "83b24d77fdafd016408c9206a41a36bf00348da83bdf22e2a6254b29bf59952a", func := "seisin/seisinlaw6.TlbNone", spec := "tlbNone", unfollowed := true, recurses := true, apart := false, narrowed := true }
def TlbNoneUptoSaid : Prop := tlbNoneUptoRow.holds Try.pinned (OpenSpec.upto tlbNoneSpec)

/-- 'seisinlaw2.PhysScript', WHERE WHAT IT READS IS OF BULK AT MOST 1048576: true; the input reads as it did. -/
def physScriptUptoRow : OpenClaim := { program := "ytfjhchcnhmafkaa", sum := "83b24d77fdafd016408c9206a41a36bf00348da83bdf22e2a6254b29bf59952a", func := "seisin/seisinlaw2.PhysScript", spec := "physScript", unfollowed := true, recurses := true, apart := false, narrowed := true }
def PhysScriptUptoSaid : Prop := physScriptUptoRow.holds Try.pinned (OpenSpec.upto physScriptSpec)

/-- 'seisinlaw2.PhysNone', WHERE WHAT IT READS IS OF BULK AT MOST 1048576: true; the input reads as it did. -/
def physNoneUptoRow : OpenClaim := { program := "ytfjhchcnhmafkaa", sum := "83b24d77fdafd016408c9206a41a36bf00348da83bdf22e2a6254b29bf59952a", func := "seisin/seisinlaw2.PhysNone", spec := "physNone", unfollowed := true, recurses := true, apart := false, narrowed := true }
def PhysNoneUptoSaid : Prop := physNoneUptoRow.holds Try.pinned (OpenSpec.upto physNoneSpec)

end Rows
end Go.Proofs.Ytfjhchcnhmafkaa
