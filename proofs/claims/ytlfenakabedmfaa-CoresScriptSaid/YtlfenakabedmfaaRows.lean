/-
  No cell of these rows narrows 'for every input' (looked for: loops, veiled, ifaces, maps, wideKeys, modest, calm, conditions, laid).
  DERIVED. THE GIVEN ROWS OF THIS SEAT. 10 by the template 'for every input the law returns true; each argument reads behind the call as it read before'; 0 by the template 'total and deterministic' (their statements: YtlfenakabedmfaaTotals.lean).
  GIVEN WITH THE SEED: the statements are not yours to turn. If you find one false, say at which input.
  Laid BY PROGRAM, IN A SANDBOX (cutbox-rows.mjs): the forced cells as the released guide's own fill.sh prints them over the translation 012be17fcb44011a… (all of the seat's roots in one cut). By AI agents, Wed Nov 11 2026. No macro, syntax, notation, axiom, sorry.
-/
import Derived.Test.YtlfenakabedmfaaChecked
import GoSem.Claim
import GoSem.ClaimJoined
import GoSem.ClaimMapViews
import Derived.JoinedTies
import Derived.KernelRfl
namespace Go.Proofs.Ytlfenakabedmfaa
/- THE CELL 'sum', in the pinned program and in every row, IS THE sha256 OF THE DUMP (.gsa) THAT YtlfenakabedmfaaProg.lean LOADS. Nothing in Lean hashes anything: it is a label: what it is worth is what the hold of that sum in a sandbox is worth. -/
noncomputable def Try.pinned : Pinned := { name := "ytlfenakabedmfaa", sum := "012be17fcb44011a1976b2ee00c2dccf7a2a0217a0818f1463a686c08888b8aa", checked := Try.checked }
namespace Rows
def none {H : Type} : Left H := { results := [], args := [] }

/-- 'seisinlaw7.CoresOwn': WHATEVER THE INPUT: true; the input reads as it did. -/
def coresOwnSpec : ChangeSpec := { name := "coresOwn", fn := fun _ => fun
  | [d1, d2] => { results := [.lit (.bool true)], args := [d1, d2] }
  | _ => none }
def coresOwnRow : OpenClaim := { program := "ytlfenakabedmfaa", sum := "012be17fcb44011a1976b2ee00c2dccf7a2a0217a0818f1463a686c08888b8aa", func := "seisin/seisinlaw7.CoresOwn", spec := "coresOwn", unfollowed := true, recurses := true, apart := false }
def CoresOwnSaid : Prop := coresOwnRow.holds Try.pinned (OpenSpec.ofChange coresOwnSpec)

/-- ITS FALSE NEIGHBOUR: 'it returns false'. Refute it at one input. -/
def coresOwnWrong : ChangeSpec := { name := "coresOwn", fn := fun _ => fun
  | [d1, d2] => { results := [.lit (.bool false)], args := [d1, d2] }
  | _ => none }
def CoresOwnWrongFalsely : Prop := coresOwnRow.holds Try.pinned (OpenSpec.ofChange coresOwnWrong)

/-- 'seisinlaw7.CoresWalk': WHATEVER THE INPUT: true; the input reads as it did. -/
def coresWalkSpec : ChangeSpec := { name := "coresWalk", fn := fun _ => fun
  | [d] => { results := [.lit (.bool true)], args := [d] }
  | _ => none }
def coresWalkRow : OpenClaim := { program := "ytlfenakabedmfaa", sum := "012be17fcb44011a1976b2ee00c2dccf7a2a0217a0818f1463a686c08888b8aa", func := "seisin/seisinlaw7.CoresWalk", spec := "coresWalk", unfollowed := true, recurses := true, apart := false }
def CoresWalkSaid : Prop := coresWalkRow.holds Try.pinned (OpenSpec.ofChange coresWalkSpec)

/-- ITS FALSE NEIGHBOUR: 'it returns false'. Refute it at one input. -/
def coresWalkWrong : ChangeSpec := { name := "coresWalk", fn := fun _ => fun
  | [d] => { results := [.lit (.bool false)], args := [d] }
  | _ => none }
def CoresWalkWrongFalsely : Prop := coresWalkRow.holds Try.pinned (OpenSpec.ofChange coresWalkWrong)

/-- 'seisinlaw7.CoresDown': WHATEVER THE INPUT: true; the input reads as it did. -/
def coresDownSpec : ChangeSpec := { name := "coresDown", fn := fun _ => fun
  | [d1, d2, d3] => { results := [.lit (.bool true)], args := [d1, d2, d3] }
  | _ => none }
def coresDownRow : OpenClaim := { program := "ytlfenakabedmfaa", sum := "012be17fcb44011a1976b2ee00c2dccf7a2a0217a0818f1463a686c08888b8aa", func := "seisin/seisinlaw7.CoresDown", spec := "coresDown", unfollowed := true, recurses := true, apart := false }
def CoresDownSaid : Prop := coresDownRow.holds Try.pinned (OpenSpec.ofChange coresDownSpec)

/-- ITS FALSE NEIGHBOUR: 'it returns false'. Refute it at one input. -/
def coresDownWrong : ChangeSpec := { name := "coresDown", fn := fun _ => fun
  | [d1, d2, d3] => { results := [.lit (.bool false)], args := [d1, d2, d3] }
  | _ => none }
def CoresDownWrongFalsely : Prop := coresDownRow.holds Try.pinned (OpenSpec.ofChange coresDownWrong)

/-- 'seisinlaw7.CoresShoot': WHATEVER THE INPUT: true; the input reads as it did. -/
def coresShootSpec : ChangeSpec := { name := "coresShoot", fn := fun _ => fun
  | [d1, d2, d3, d4, d5] => { results := [.lit (.bool true)], args := [d1, d2, d3, d4, d5] }
  | _ => none }
def coresShootRow : OpenClaim := { program := "ytlfenakabedmfaa", sum := "012be17fcb44011a1976b2ee00c2dccf7a2a0217a0818f1463a686c08888b8aa", func := "seisin/seisinlaw7.CoresShoot", spec := "coresShoot", unfollowed := true, recurses := true, apart := false }
def CoresShootSaid : Prop := coresShootRow.holds Try.pinned (OpenSpec.ofChange coresShootSpec)

/-- ITS FALSE NEIGHBOUR: 'it returns false'. Refute it at one input. -/
def coresShootWrong : ChangeSpec := { name := "coresShoot", fn := fun _ => fun
  | [d1, d2, d3, d4, d5] => { results := [.lit (.bool false)], args := [d1, d2, d3, d4, d5] }
  | _ => none }
def CoresShootWrongFalsely : Prop := coresShootRow.holds Try.pinned (OpenSpec.ofChange coresShootWrong)

/-- 'seisinlaw8.AccessBack': WHATEVER THE INPUT: true; the input reads as it did. -/
def accessBackSpec : ChangeSpec := { name := "accessBack", fn := fun _ => fun
  | [d1, d2, d3] => { results := [.lit (.bool true)], args := [d1, d2, d3] }
  | _ => none }
def accessBackRow : OpenClaim := { program := "ytlfenakabedmfaa", sum := "012be17fcb44011a1976b2ee00c2dccf7a2a0217a0818f1463a686c08888b8aa", func := "seisin/seisinlaw8.AccessBack", spec := "accessBack", unfollowed := true, recurses := true, apart := false }
def AccessBackSaid : Prop := accessBackRow.holds Try.pinned (OpenSpec.ofChange accessBackSpec)

/-- ITS FALSE NEIGHBOUR: 'it returns false'. Refute it at one input. -/
def accessBackWrong : ChangeSpec := { name := "accessBack", fn := fun _ => fun
  | [d1, d2, d3] => { results := [.lit (.bool false)], args := [d1, d2, d3] }
  | _ => none }
def AccessBackWrongFalsely : Prop := accessBackRow.holds Try.pinned (OpenSpec.ofChange accessBackWrong)

/-- 'seisinlaw8.AccessNone': WHATEVER THE INPUT: true; the input reads as it did. -/
def accessNoneSpec : ChangeSpec := { name := "accessNone", fn := fun _ => fun
  | [d1, d2, d3] => { results := [.lit (.bool true)], args := [d1, d2, d3] }
  | _ => none }
def accessNoneRow : OpenClaim := { program := "ytlfenakabedmfaa", sum := "012be17fcb44011a1976b2ee00c2dccf7a2a0217a0818f1463a686c08888b8aa", func := "seisin/seisinlaw8.AccessNone", spec := "accessNone", unfollowed := true, recurses := true, apart := false }
def AccessNoneSaid : Prop := accessNoneRow.holds Try.pinned (OpenSpec.ofChange accessNoneSpec)

/-- ITS FALSE NEIGHBOUR: 'it returns false'. Refute it at one input. -/
def accessNoneWrong : ChangeSpec := { name := "accessNone", fn := fun _ => fun
  | [d1, d2, d3] => { results := [.lit (.bool false)], args := [d1, d2, d3] }
  | _ => none }
def AccessNoneWrongFalsely : Prop := accessNoneRow.holds Try.pinned (OpenSpec.ofChange accessNoneWrong)

/-- 'seisinlaw7.CoresScript': WHATEVER THE INPUT: true; the input reads as it did. -/
def coresScriptSpec : ChangeSpec := { name := "coresScript", fn := fun _ => fun
  | [d1, d2, d3] => { results := [.lit (.bool true)], args := [d1, d2, d3] }
  | _ => none }
def coresScriptRow : OpenClaim := { program := "ytlfenakabedmfaa", sum := "012be17fcb44011a1976b2ee00c2dccf7a2a0217a0818f1463a686c08888b8aa", func := "seisin/seisinlaw7.CoresScript", spec := "coresScript", unfollowed := true, recurses := true, apart := false }
def CoresScriptSaid : Prop := coresScriptRow.holds Try.pinned (OpenSpec.ofChange coresScriptSpec)

/-- ITS FALSE NEIGHBOUR: 'it returns false'. Refute it at one input. -/
def coresScriptWrong : ChangeSpec := { name := "coresScript", fn := fun _ => fun
  | [d1, d2, d3] => { results := [.lit (.bool false)], args := [d1, d2, d3] }
  | _ => none }
def CoresScriptWrongFalsely : Prop := coresScriptRow.holds Try.pinned (OpenSpec.ofChange coresScriptWrong)

/-- 'seisinlaw7.CoresNone': WHATEVER THE INPUT: true; the input reads as it did. -/
def coresNoneSpec : ChangeSpec := { name := "coresNone", fn := fun _ => fun
  | [d1, d2] => { results := [.lit (.bool true)], args := [d1, d2] }
  | _ => none }
def coresNoneRow : OpenClaim := { program := "ytlfenakabedmfaa", sum := "012be17fcb44011a1976b2ee00c2dccf7a2a0217a0818f1463a686c08888b8aa", func := "seisin/seisinlaw7.CoresNone", spec := "coresNone", unfollowed := true, recurses := true, apart := false }
def CoresNoneSaid : Prop := coresNoneRow.holds Try.pinned (OpenSpec.ofChange coresNoneSpec)

/-- ITS FALSE NEIGHBOUR: 'it returns false'. Refute it at one input. -/
def coresNoneWrong : ChangeSpec := { name := "coresNone", fn := fun _ => fun
  | [d1, d2] => { results := [.lit (.bool false)], args := [d1, d2] }
  | _ => none }
def CoresNoneWrongFalsely : Prop := coresNoneRow.holds Try.pinned (OpenSpec.ofChange coresNoneWrong)

/-- 'seisinlaw8.AccessScript': WHATEVER THE INPUT: true; the input reads as it did. -/
def accessScriptSpec : ChangeSpec := { name := "accessScript", fn := fun _ => fun
  | [d] => { results := [.lit (.bool true)], args := [d] }
  | _ => none }
def accessScriptRow : OpenClaim := { program := "ytlfenakabedmfaa", sum := "012be17fcb44011a1976b2ee00c2dccf7a2a0217a0818f1463a686c08888b8aa", func := "seisin/seisinlaw8.AccessScript", spec := "accessScript", unfollowed := true, recurses := true, apart := false }
def AccessScriptSaid : Prop := accessScriptRow.holds Try.pinned (OpenSpec.ofChange accessScriptSpec)

/-- ITS FALSE NEIGHBOUR: 'it returns false'. Refute it at one input. -/
def accessScriptWrong : ChangeSpec := { name := "accessScript", fn := fun _ => fun
  | [d] => { results := [.lit (.bool false)], args := [d] }
  | _ => none }
def AccessScriptWrongFalsely : Prop := accessScriptRow.holds Try.pinned (OpenSpec.ofChange accessScriptWrong)

/-- 'seisinlaw8.AccessFaults': WHATEVER THE INPUT: true; the input reads as it did. -/
def accessFaultsSpec : ChangeSpec := { name := "accessFaults", fn := fun _ => fun
  | [d1, d2, d3, d4] => { results := [.lit (.bool true)], args := [d1, d2, d3, d4] }
  | _ => none }
def accessFaultsRow : OpenClaim := { program := "ytlfenakabedmfaa", sum := "012be17fcb44011a1976b2ee00c2dccf7a2a0217a0818f1463a686c08888b8aa", func := "seisin/seisinlaw8.AccessFaults", spec := "accessFaults", unfollowed := true, recurses := true, apart := false }
def AccessFaultsSaid : Prop := accessFaultsRow.holds Try.pinned (OpenSpec.ofChange accessFaultsSpec)

/-- ITS FALSE NEIGHBOUR: 'it returns false'. Refute it at one input. -/
def accessFaultsWrong : ChangeSpec := { name := "accessFaults", fn := fun _ => fun
  | [d1, d2, d3, d4] => { results := [.lit (.bool false)], args := [d1, d2, d3, d4] }
  | _ => none }
def AccessFaultsWrongFalsely : Prop := accessFaultsRow.holds Try.pinned (OpenSpec.ofChange accessFaultsWrong)

/- THE SECOND FORM. 'bulk': how many values and letters a reading holds, each counted each time it is reached (what is shared counts as often as it is met; a slice's spare places count too). A statement '..UptoSaid' is the law's where the arguments, and the package variables that the reading takes, are together of bulk at most 1048576: NARROWER than '..Said'. Prove '..Said' where nothing that the law and all that it calls make is longer than what came in: it says more and counts as full. Else prove '..UptoSaid'. A law counts once. -/
mutual
def uptoBulk {H : Type} : DataW H → Nat
  | .lit (.string bytes) => bytes.length + 1
  | .lit _ => 1
  | .nil => 1
  | .ptr d => uptoBulk d + 1
  | .slice elems spare => uptoBulkAll elems + uptoBulkAll spare + 1
  | .agg parts => uptoBulkAll parts + 1
  | .iface _ d => uptoBulk d + 1
  | .map entries => uptoBulkEntries entries + 1
  | .held _ => 1
def uptoBulkAll {H : Type} : List (DataW H) → Nat
  | [] => 0
  | d :: r => uptoBulk d + uptoBulkAll r
def uptoBulkEntries {H : Type} : List (Lit × DataW H) → Nat
  | [] => 0
  | x :: r => uptoBulkEntry x + uptoBulkEntries r
def uptoBulkEntry {H : Type} : Lit × DataW H → Nat
  | (.string bytes, d) => bytes.length + uptoBulk d + 1
  | (_, d) => uptoBulk d + 1
 end
def uptoSmall : (H : Type) → List (DataW H) → Bool := fun _ ds => decide (uptoBulkAll ds ≤ 1048576)
def OpenSpec.upto (s : _root_.Go.ChangeSpec) : _root_.Go.OpenSpec := { _root_.Go.OpenSpec.ofChange s with cond := some uptoSmall }

/-- 'seisinlaw7.CoresOwn', WHERE WHAT IT READS IS OF BULK AT MOST 1048576: true; the input reads as it did. -/
def coresOwnUptoRow : OpenClaim := { program := "ytlfenakabedmfaa", sum := "012be17fcb44011a1976b2ee00c2dccf7a2a0217a0818f1463a686c08888b8aa", func := "seisin/seisinlaw7.CoresOwn", spec := "coresOwn", unfollowed := true, recurses := true, apart := false, narrowed := true }
def CoresOwnUptoSaid : Prop := coresOwnUptoRow.holds Try.pinned (OpenSpec.upto coresOwnSpec)

/-- 'seisinlaw7.CoresWalk', WHERE WHAT IT READS IS OF BULK AT MOST 1048576: true; the input reads as it did. -/
def coresWalkUptoRow : OpenClaim := { program := "ytlfenakabedmfaa", sum := "012be17fcb44011a1976b2ee00c2dccf7a2a0217a0818f1463a686c08888b8aa", func := "seisin/seisinlaw7.CoresWalk", spec := "coresWalk", unfollowed := true, recurses := true, apart := false, narrowed := true }
def CoresWalkUptoSaid : Prop := coresWalkUptoRow.holds Try.pinned (OpenSpec.upto coresWalkSpec)

/-- 'seisinlaw7.CoresDown', WHERE WHAT IT READS IS OF BULK AT MOST 1048576: true; the input reads as it did. -/
def coresDownUptoRow : OpenClaim := { program := "ytlfenakabedmfaa", sum := "012be17fcb44011a1976b2ee00c2dccf7a2a0217a0818f1463a686c08888b8aa", func := "seisin/seisinlaw7.CoresDown", spec := "coresDown", unfollowed := true, recurses := true, apart := false, narrowed := true }
def CoresDownUptoSaid : Prop := coresDownUptoRow.holds Try.pinned (OpenSpec.upto coresDownSpec)

/-- 'seisinlaw7.CoresShoot', WHERE WHAT IT READS IS OF BULK AT MOST 1048576: true; the input reads as it did. -/
def coresShootUptoRow : OpenClaim := { program := "ytlfenakabedmfaa", sum := "012be17fcb44011a1976b2ee00c2dccf7a2a0217a0818f1463a686c08888b8aa", func := "seisin/seisinlaw7.CoresShoot", spec := "coresShoot", unfollowed := true, recurses := true, apart := false, narrowed := true }
def CoresShootUptoSaid : Prop := coresShootUptoRow.holds Try.pinned (OpenSpec.upto coresShootSpec)

/-- 'seisinlaw8.AccessBack', WHERE WHAT IT READS IS OF BULK AT MOST 1048576: true; the input reads as it did. -/
def accessBackUptoRow : OpenClaim := { program := "ytlfenakabedmfaa", sum := "012be17fcb44011a1976b2ee00c2dccf7a2a0217a0818f1463a686c08888b8aa", func := "seisin/seisinlaw8.AccessBack", spec := "accessBack", unfollowed := true, recurses := true, apart := false, narrowed := true }
def AccessBackUptoSaid : Prop := accessBackUptoRow.holds Try.pinned (OpenSpec.upto accessBackSpec)

/-- 'seisinlaw8.AccessNone', WHERE WHAT IT READS IS OF BULK AT MOST 1048576: true; the input reads as it did. -/
def accessNoneUptoRow : OpenClaim := { program := "ytlfenakabedmfaa", sum := "012be17fcb44011a1976b2ee00c2dccf7a2a0217a0818f1463a686c08888b8aa", func := "seisin/seisinlaw8.AccessNone", spec := "accessNone", unfollowed := true, recurses := true, apart := false, narrowed := true }
def AccessNoneUptoSaid : Prop := accessNoneUptoRow.holds Try.pinned (OpenSpec.upto accessNoneSpec)

/-- 'seisinlaw7.CoresScript', WHERE WHAT IT READS IS OF BULK AT MOST 1048576: true; the input reads as it did. -/
def coresScriptUptoRow : OpenClaim := { program := "ytlfenakabedmfaa", sum := "012be17fcb44011a1976b2ee00c2dccf7a2a0217a0818f1463a686c08888b8aa", func := "seisin/seisinlaw7.CoresScript", spec := "coresScript", unfollowed := true, recurses := true, apart := false, narrowed := true }
def CoresScriptUptoSaid : Prop := coresScriptUptoRow.holds Try.pinned (OpenSpec.upto coresScriptSpec)

/-- 'seisinlaw7.CoresNone', WHERE WHAT IT READS IS OF BULK AT MOST 1048576: true; the input reads as it did. -/
def coresNoneUptoRow : OpenClaim := { program := "ytlfenakabedmfaa", sum := "012be17fcb44011a1976b2ee00c2dccf7a2a0217a0818f1463a686c08888b8aa", func := "seisin/seisinlaw7.CoresNone", spec := "coresNone", unfollowed := true, recurses := true, apart := false, narrowed := true }
def CoresNoneUptoSaid : Prop := coresNoneUptoRow.holds Try.pinned (OpenSpec.upto coresNoneSpec)

/-- 'seisinlaw8.AccessScript', WHERE WHAT IT READS IS OF BULK AT MOST 1048576: true; the input reads as it did. -/
def accessScriptUptoRow : OpenClaim := { program := "ytlfenakabedmfaa", sum := "012be17fcb44011a1976b2ee00c2dccf7a2a0217a0818f1463a686c08888b8aa", func := "seisin/seisinlaw8.AccessScript", spec := "accessScript", unfollowed := true, recurses := true, apart := false, narrowed := true }
def AccessScriptUptoSaid : Prop := accessScriptUptoRow.holds Try.pinned (OpenSpec.upto accessScriptSpec)

/-- 'seisinlaw8.AccessFaults', WHERE WHAT IT READS IS OF BULK AT MOST 1048576: true; the input reads as it did. -/
def accessFaultsUptoRow : OpenClaim := { program := "ytlfenakabedmfaa", sum := "012be17fcb44011a1976b2ee00c2dccf7a2a0217a0818f1463a686c08888b8aa", func := "seisin/seisinlaw8.AccessFaults", spec := "accessFaults", unfollowed := true, recurses := true, apart := false, narrowed := true }
def AccessFaultsUptoSaid : Prop := accessFaultsUptoRow.holds Try.pinned (OpenSpec.upto accessFaultsSpec)

end Rows
end Go.Proofs.Ytlfenakabedmfaa
