/-
  No cell of these rows narrows 'for every input' (looked for: loops, veiled, ifaces, maps, wideKeys, modest, calm, conditions, laid).
  DERIVED. THE GIVEN ROWS OF THIS SEAT. 12 by the template 'for every input the law returns true; each argument reads behind the call as it read before'; 0 by the template 'total and deterministic' (their statements: YtdmpdfogilcjnaaTotals.lean).
  GIVEN WITH THE SEED: the statements are not yours to turn. If you find one false, say at which input.
  Laid BY PROGRAM, IN A SANDBOX (cutbox-rows.mjs): the forced cells as the released guide's own fill.sh prints them over the translation d3e5a2c62a4f4071… (all of the seat's roots in one cut). By AI agents, Wed Nov 11 2026. No macro, syntax, notation, axiom, sorry.
-/
import Derived.Test.YtdmpdfogilcjnaaChecked
import GoSem.Claim
import GoSem.ClaimJoined
import GoSem.ClaimMapViews
import Derived.JoinedTies
import Derived.KernelRfl
namespace Go.Proofs.Ytdmpdfogilcjnaa
/- THE CELL 'sum', in the pinned program and in every row, IS THE sha256 OF THE DUMP (.gsa) THAT YtdmpdfogilcjnaaProg.lean LOADS. Nothing in Lean hashes anything: it is a label: what it is worth is what the hold of that sum in a sandbox is worth. -/
noncomputable def Try.pinned : Pinned := { name := "ytdmpdfogilcjnaa", sum := "d3e5a2c62a4f407133c4f12731ae95444138c7849b2f245a646f34b3892433a1", checked := Try.checked }
namespace Rows
def none {H : Type} : Left H := { results := [], args := [] }

/-- 'seisinlaw4.VaddrSplits': WHATEVER THE INPUT: true; the input reads as it did. -/
def vaddrSplitsSpec : ChangeSpec := { name := "vaddrSplits", fn := fun _ => fun
  | [d] => { results := [.lit (.bool true)], args := [d] }
  | _ => none }
def vaddrSplitsRow : OpenClaim := { program := "ytdmpdfogilcjnaa", sum := "d3e5a2c62a4f407133c4f12731ae95444138c7849b2f245a646f34b3892433a1", func := "seisin/seisinlaw4.VaddrSplits", spec := "vaddrSplits", apart := false }
def VaddrSplitsSaid : Prop := vaddrSplitsRow.holds Try.pinned (OpenSpec.ofChange vaddrSplitsSpec)

/-- ITS FALSE NEIGHBOUR: 'it returns false'. Refute it at one input. -/
def vaddrSplitsWrong : ChangeSpec := { name := "vaddrSplits", fn := fun _ => fun
  | [d] => { results := [.lit (.bool false)], args := [d] }
  | _ => none }
def VaddrSplitsWrongFalsely : Prop := vaddrSplitsRow.holds Try.pinned (OpenSpec.ofChange vaddrSplitsWrong)

/-- 'seisinlaw9.RightsReads': WHATEVER THE INPUT: true; the input reads as it did. -/
def rightsReadsSpec : ChangeSpec := { name := "rightsReads", fn := fun _ => fun
  | [d] => { results := [.lit (.bool true)], args := [d] }
  | _ => none }
def rightsReadsRow : OpenClaim := { program := "ytdmpdfogilcjnaa", sum := "d3e5a2c62a4f407133c4f12731ae95444138c7849b2f245a646f34b3892433a1", func := "seisin/seisinlaw9.RightsReads", spec := "rightsReads", apart := false }
def RightsReadsSaid : Prop := rightsReadsRow.holds Try.pinned (OpenSpec.ofChange rightsReadsSpec)

/-- ITS FALSE NEIGHBOUR: 'it returns false'. Refute it at one input. -/
def rightsReadsWrong : ChangeSpec := { name := "rightsReads", fn := fun _ => fun
  | [d] => { results := [.lit (.bool false)], args := [d] }
  | _ => none }
def RightsReadsWrongFalsely : Prop := rightsReadsRow.holds Try.pinned (OpenSpec.ofChange rightsReadsWrong)

/-- 'seisinlaw9.RightsFall': WHATEVER THE INPUT: true; the input reads as it did. -/
def rightsFallSpec : ChangeSpec := { name := "rightsFall", fn := fun _ => fun
  | [d1, d2] => { results := [.lit (.bool true)], args := [d1, d2] }
  | _ => none }
def rightsFallRow : OpenClaim := { program := "ytdmpdfogilcjnaa", sum := "d3e5a2c62a4f407133c4f12731ae95444138c7849b2f245a646f34b3892433a1", func := "seisin/seisinlaw9.RightsFall", spec := "rightsFall", apart := false }
def RightsFallSaid : Prop := rightsFallRow.holds Try.pinned (OpenSpec.ofChange rightsFallSpec)

/-- ITS FALSE NEIGHBOUR: 'it returns false'. Refute it at one input. -/
def rightsFallWrong : ChangeSpec := { name := "rightsFall", fn := fun _ => fun
  | [d1, d2] => { results := [.lit (.bool false)], args := [d1, d2] }
  | _ => none }
def RightsFallWrongFalsely : Prop := rightsFallRow.holds Try.pinned (OpenSpec.ofChange rightsFallWrong)

/-- 'seisinlaw9.RightsBack': WHATEVER THE INPUT: true; the input reads as it did. -/
def rightsBackSpec : ChangeSpec := { name := "rightsBack", fn := fun _ => fun
  | [d] => { results := [.lit (.bool true)], args := [d] }
  | _ => none }
def rightsBackRow : OpenClaim := { program := "ytdmpdfogilcjnaa", sum := "d3e5a2c62a4f407133c4f12731ae95444138c7849b2f245a646f34b3892433a1", func := "seisin/seisinlaw9.RightsBack", spec := "rightsBack", apart := false }
def RightsBackSaid : Prop := rightsBackRow.holds Try.pinned (OpenSpec.ofChange rightsBackSpec)

/-- ITS FALSE NEIGHBOUR: 'it returns false'. Refute it at one input. -/
def rightsBackWrong : ChangeSpec := { name := "rightsBack", fn := fun _ => fun
  | [d] => { results := [.lit (.bool false)], args := [d] }
  | _ => none }
def RightsBackWrongFalsely : Prop := rightsBackRow.holds Try.pinned (OpenSpec.ofChange rightsBackWrong)

/-- 'seisinlaw1.WordFields': WHATEVER THE INPUT: true; the input reads as it did. -/
def wordFieldsSpec : ChangeSpec := { name := "wordFields", fn := fun _ => fun
  | [d1, d2, d3] => { results := [.lit (.bool true)], args := [d1, d2, d3] }
  | _ => none }
def wordFieldsRow : OpenClaim := { program := "ytdmpdfogilcjnaa", sum := "d3e5a2c62a4f407133c4f12731ae95444138c7849b2f245a646f34b3892433a1", func := "seisin/seisinlaw1.WordFields", spec := "wordFields", unfollowed := true, recurses := true, apart := false }
def WordFieldsSaid : Prop := wordFieldsRow.holds Try.pinned (OpenSpec.ofChange wordFieldsSpec)

/-- ITS FALSE NEIGHBOUR: 'it returns false'. Refute it at one input. -/
def wordFieldsWrong : ChangeSpec := { name := "wordFields", fn := fun _ => fun
  | [d1, d2, d3] => { results := [.lit (.bool false)], args := [d1, d2, d3] }
  | _ => none }
def WordFieldsWrongFalsely : Prop := wordFieldsRow.holds Try.pinned (OpenSpec.ofChange wordFieldsWrong)

/-- 'seisinlaw1.WordPuts': WHATEVER THE INPUT: true; the input reads as it did. -/
def wordPutsSpec : ChangeSpec := { name := "wordPuts", fn := fun _ => fun
  | [d1, d2, d3, d4] => { results := [.lit (.bool true)], args := [d1, d2, d3, d4] }
  | _ => none }
def wordPutsRow : OpenClaim := { program := "ytdmpdfogilcjnaa", sum := "d3e5a2c62a4f407133c4f12731ae95444138c7849b2f245a646f34b3892433a1", func := "seisin/seisinlaw1.WordPuts", spec := "wordPuts", unfollowed := true, recurses := true, apart := false }
def WordPutsSaid : Prop := wordPutsRow.holds Try.pinned (OpenSpec.ofChange wordPutsSpec)

/-- ITS FALSE NEIGHBOUR: 'it returns false'. Refute it at one input. -/
def wordPutsWrong : ChangeSpec := { name := "wordPuts", fn := fun _ => fun
  | [d1, d2, d3, d4] => { results := [.lit (.bool false)], args := [d1, d2, d3, d4] }
  | _ => none }
def WordPutsWrongFalsely : Prop := wordPutsRow.holds Try.pinned (OpenSpec.ofChange wordPutsWrong)

/-- 'seisinlaw1.WordOnes': WHATEVER THE INPUT: true; the input reads as it did. -/
def wordOnesSpec : ChangeSpec := { name := "wordOnes", fn := fun _ => fun
  | [d1, d2] => { results := [.lit (.bool true)], args := [d1, d2] }
  | _ => none }
def wordOnesRow : OpenClaim := { program := "ytdmpdfogilcjnaa", sum := "d3e5a2c62a4f407133c4f12731ae95444138c7849b2f245a646f34b3892433a1", func := "seisin/seisinlaw1.WordOnes", spec := "wordOnes", unfollowed := true, recurses := true, apart := false }
def WordOnesSaid : Prop := wordOnesRow.holds Try.pinned (OpenSpec.ofChange wordOnesSpec)

/-- ITS FALSE NEIGHBOUR: 'it returns false'. Refute it at one input. -/
def wordOnesWrong : ChangeSpec := { name := "wordOnes", fn := fun _ => fun
  | [d1, d2] => { results := [.lit (.bool false)], args := [d1, d2] }
  | _ => none }
def WordOnesWrongFalsely : Prop := wordOnesRow.holds Try.pinned (OpenSpec.ofChange wordOnesWrong)

/-- 'seisinlaw1.WordBack': WHATEVER THE INPUT: true; the input reads as it did. -/
def wordBackSpec : ChangeSpec := { name := "wordBack", fn := fun _ => fun
  | [d1, d2, d3, d4] => { results := [.lit (.bool true)], args := [d1, d2, d3, d4] }
  | _ => none }
def wordBackRow : OpenClaim := { program := "ytdmpdfogilcjnaa", sum := "d3e5a2c62a4f407133c4f12731ae95444138c7849b2f245a646f34b3892433a1", func := "seisin/seisinlaw1.WordBack", spec := "wordBack", unfollowed := true, recurses := true, apart := false }
def WordBackSaid : Prop := wordBackRow.holds Try.pinned (OpenSpec.ofChange wordBackSpec)

/-- ITS FALSE NEIGHBOUR: 'it returns false'. Refute it at one input. -/
def wordBackWrong : ChangeSpec := { name := "wordBack", fn := fun _ => fun
  | [d1, d2, d3, d4] => { results := [.lit (.bool false)], args := [d1, d2, d3, d4] }
  | _ => none }
def WordBackWrongFalsely : Prop := wordBackRow.holds Try.pinned (OpenSpec.ofChange wordBackWrong)

/-- 'seisinlaw1.WordParts': WHATEVER THE INPUT: true; the input reads as it did. -/
def wordPartsSpec : ChangeSpec := { name := "wordParts", fn := fun _ => fun
  | [d1, d2, d3, d4] => { results := [.lit (.bool true)], args := [d1, d2, d3, d4] }
  | _ => none }
def wordPartsRow : OpenClaim := { program := "ytdmpdfogilcjnaa", sum := "d3e5a2c62a4f407133c4f12731ae95444138c7849b2f245a646f34b3892433a1", func := "seisin/seisinlaw1.WordParts", spec := "wordParts", unfollowed := true, recurses := true, apart := false }
def WordPartsSaid : Prop := wordPartsRow.holds Try.pinned (OpenSpec.ofChange wordPartsSpec)

/-- ITS FALSE NEIGHBOUR: 'it returns false'. Refute it at one input. -/
def wordPartsWrong : ChangeSpec := { name := "wordParts", fn := fun _ => fun
  | [d1, d2, d3, d4] => { results := [.lit (.bool false)], args := [d1, d2, d3, d4] }
  | _ => none }
def WordPartsWrongFalsely : Prop := wordPartsRow.holds Try.pinned (OpenSpec.ofChange wordPartsWrong)

/-- 'seisinlaw4.VaddrLevels': WHATEVER THE INPUT: true; the input reads as it did. -/
def vaddrLevelsSpec : ChangeSpec := { name := "vaddrLevels", fn := fun _ => fun
  | [d] => { results := [.lit (.bool true)], args := [d] }
  | _ => none }
def vaddrLevelsRow : OpenClaim := { program := "ytdmpdfogilcjnaa", sum := "d3e5a2c62a4f407133c4f12731ae95444138c7849b2f245a646f34b3892433a1", func := "seisin/seisinlaw4.VaddrLevels", spec := "vaddrLevels", apart := false }
def VaddrLevelsSaid : Prop := vaddrLevelsRow.holds Try.pinned (OpenSpec.ofChange vaddrLevelsSpec)

/-- ITS FALSE NEIGHBOUR: 'it returns false'. Refute it at one input. -/
def vaddrLevelsWrong : ChangeSpec := { name := "vaddrLevels", fn := fun _ => fun
  | [d] => { results := [.lit (.bool false)], args := [d] }
  | _ => none }
def VaddrLevelsWrongFalsely : Prop := vaddrLevelsRow.holds Try.pinned (OpenSpec.ofChange vaddrLevelsWrong)

/-- 'seisinlaw4.VaddrBack': WHATEVER THE INPUT: true; the input reads as it did. -/
def vaddrBackSpec : ChangeSpec := { name := "vaddrBack", fn := fun _ => fun
  | [d1, d2] => { results := [.lit (.bool true)], args := [d1, d2] }
  | _ => none }
def vaddrBackRow : OpenClaim := { program := "ytdmpdfogilcjnaa", sum := "d3e5a2c62a4f407133c4f12731ae95444138c7849b2f245a646f34b3892433a1", func := "seisin/seisinlaw4.VaddrBack", spec := "vaddrBack", unfollowed := true, recurses := true, apart := false }
def VaddrBackSaid : Prop := vaddrBackRow.holds Try.pinned (OpenSpec.ofChange vaddrBackSpec)

/-- ITS FALSE NEIGHBOUR: 'it returns false'. Refute it at one input. -/
def vaddrBackWrong : ChangeSpec := { name := "vaddrBack", fn := fun _ => fun
  | [d1, d2] => { results := [.lit (.bool false)], args := [d1, d2] }
  | _ => none }
def VaddrBackWrongFalsely : Prop := vaddrBackRow.holds Try.pinned (OpenSpec.ofChange vaddrBackWrong)

/-- 'seisinlaw4.VaddrJoins': WHATEVER THE INPUT: true; the input reads as it did. -/
def vaddrJoinsSpec : ChangeSpec := { name := "vaddrJoins", fn := fun _ => fun
  | [d1, d2, d3] => { results := [.lit (.bool true)], args := [d1, d2, d3] }
  | _ => none }
def vaddrJoinsRow : OpenClaim := { program := "ytdmpdfogilcjnaa", sum := "d3e5a2c62a4f407133c4f12731ae95444138c7849b2f245a646f34b3892433a1", func := "seisin/seisinlaw4.VaddrJoins", spec := "vaddrJoins", unfollowed := true, recurses := true, apart := false }
def VaddrJoinsSaid : Prop := vaddrJoinsRow.holds Try.pinned (OpenSpec.ofChange vaddrJoinsSpec)

/-- ITS FALSE NEIGHBOUR: 'it returns false'. Refute it at one input. -/
def vaddrJoinsWrong : ChangeSpec := { name := "vaddrJoins", fn := fun _ => fun
  | [d1, d2, d3] => { results := [.lit (.bool false)], args := [d1, d2, d3] }
  | _ => none }
def VaddrJoinsWrongFalsely : Prop := vaddrJoinsRow.holds Try.pinned (OpenSpec.ofChange vaddrJoinsWrong)

/- THE SECOND FORM. 'bulk': how many values and letters a reading holds, each counted each time it is reached (what is shared counts as often as it is met; a slice's spare places count too). A statement '..UptoSaid' is the law's where the arguments, and the package variables that the reading takes, are together of bulk at most 1048576: NARROWER than '..Said'. Prove '..Said' where nothing that the law and all that it calls make is longer than what came in: it says more and counts as full. Else prove '..UptoSaid'. A law counts once. -/
mutual
def uptoBulk {H : Type} : DataW H → Nat
  | .lit (.string bytes) => bytes.length + 1
  | .lit _ => 1
  | .nil => 1
  | .ptr d => uptoBulk d + 1
  | .slice elems spare => uptoBulkAll elems + uptoBulkAll spare + 1
  | .agg parts => uptoBulkAll parts + 1
  | .iface _ d => uptoBulk d + 1
  | .map entries => uptoBulkEntries entries + 1
  | .held _ => 1
def uptoBulkAll {H : Type} : List (DataW H) → Nat
  | [] => 0
  | d :: r => uptoBulk d + uptoBulkAll r
def uptoBulkEntries {H : Type} : List (Lit × DataW H) → Nat
  | [] => 0
  | x :: r => uptoBulkEntry x + uptoBulkEntries r
def uptoBulkEntry {H : Type} : Lit × DataW H → Nat
  | (.string bytes, d) => bytes.length + uptoBulk d + 1
  | (_, d) => uptoBulk d + 1
 end
def uptoSmall : (H : Type) → List (DataW H) → Bool := fun _ ds => decide (uptoBulkAll ds ≤ 1048576)
def OpenSpec.upto (s : _root_.Go.ChangeSpec) : _root_.Go.OpenSpec := { _root_.Go.OpenSpec.ofChange s with cond := some uptoSmall }

/-- 'seisinlaw4.VaddrSplits', WHERE WHAT IT READS IS OF BULK AT MOST 1048576: true; the input reads as it did. -/
def vaddrSplitsUptoRow : OpenClaim := { program := "ytdmpdfogilcjnaa", sum := "d3e5a2c62a4f407133c4f12731ae95444138c7849b2f245a646f34b3892433a1", func := "seisin/seisinlaw4.VaddrSplits", spec := "vaddrSplits", apart := false, narrowed := true }
def VaddrSplitsUptoSaid : Prop := vaddrSplitsUptoRow.holds Try.pinned (OpenSpec.upto vaddrSplitsSpec)

/-- 'seisinlaw9.RightsReads', WHERE WHAT IT READS IS OF BULK AT MOST 1048576: true; the input reads as it did. -/
def rightsReadsUptoRow : OpenClaim := { program := "ytdmpdfogilcjnaa", sum := "d3e5a2c62a4f407133c4f12731ae95444138c7849b2f245a646f34b3892433a1", func := "seisin/seisinlaw9.RightsReads", spec := "rightsReads", apart := false, narrowed := true }
def RightsReadsUptoSaid : Prop := rightsReadsUptoRow.holds Try.pinned (OpenSpec.upto rightsReadsSpec)

/-- 'seisinlaw9.RightsFall', WHERE WHAT IT READS IS OF BULK AT MOST 1048576: true; the input reads as it did. -/
def rightsFallUptoRow : OpenClaim := { program := "ytdmpdfogilcjnaa", sum := "d3e5a2c62a4f407133c4f12731ae95444138c7849b2f245a646f34b3892433a1", func := "seisin/seisinlaw9.RightsFall", spec := "rightsFall", apart := false, narrowed := true }
def RightsFallUptoSaid : Prop := rightsFallUptoRow.holds Try.pinned (OpenSpec.upto rightsFallSpec)

/-- 'seisinlaw9.RightsBack', WHERE WHAT IT READS IS OF BULK AT MOST 1048576: true; the input reads as it did. -/
def rightsBackUptoRow : OpenClaim := { program := "ytdmpdfogilcjnaa", sum := "d3e5a2c62a4f407133c4f12731ae95444138c7849b2f245a646f34b3892433a1", func := "seisin/seisinlaw9.RightsBack", spec := "rightsBack", apart := false, narrowed := true }
def RightsBackUptoSaid : Prop := rightsBackUptoRow.holds Try.pinned (OpenSpec.upto rightsBackSpec)

/-- 'seisinlaw1.WordFields', WHERE WHAT IT READS IS OF BULK AT MOST 1048576: true; the input reads as it did. -/
def wordFieldsUptoRow : OpenClaim := { program := "ytdmpdfogilcjnaa", sum := "d3e5a2c62a4f407133c4f12731ae95444138c7849b2f245a646f34b3892433a1", func := "seisin/seisinlaw1.WordFields", spec := "wordFields", unfollowed := true, recurses := true, apart := false, narrowed := true }
def WordFieldsUptoSaid : Prop := wordFieldsUptoRow.holds Try.pinned (OpenSpec.upto wordFieldsSpec)

/-- 'seisinlaw1.WordPuts', WHERE WHAT IT READS IS OF BULK AT MOST 1048576: true; the input reads as it did. -/
def wordPutsUptoRow : OpenClaim := { program := "ytdmpdfogilcjnaa", sum := "d3e5a2c62a4f407133c4f12731ae95444138c7849b2f245a646f34b3892433a1", func := "seisin/seisinlaw1.WordPuts", spec := "wordPuts", unfollowed := true, recurses := true, apart := false, narrowed := true }
def WordPutsUptoSaid : Prop := wordPutsUptoRow.holds Try.pinned (OpenSpec.upto wordPutsSpec)

/-- 'seisinlaw1.WordOnes', WHERE WHAT IT READS IS OF BULK AT MOST 1048576: true; the input reads as it did. -/
def wordOnesUptoRow : OpenClaim := { program := "ytdmpdfogilcjnaa", sum := "d3e5a2c62a4f407133c4f12731ae95444138c7849b2f245a646f34b3892433a1", func := "seisin/seisinlaw1.WordOnes", spec := "wordOnes", unfollowed := true, recurses := true, apart := false, narrowed := true }
def WordOnesUptoSaid : Prop := wordOnesUptoRow.holds Try.pinned (OpenSpec.upto wordOnesSpec)

/-- 'seisinlaw1.WordBack', WHERE WHAT IT READS IS OF BULK AT MOST 1048576: true; the input reads as it did. -/
def wordBackUptoRow : OpenClaim := { program := "ytdmpdfogilcjnaa", sum := "d3e5a2c62a4f407133c4f12731ae95444138c7849b2f245a646f34b3892433a1", func := "seisin/seisinlaw1.WordBack", spec := "wordBack", unfollowed := true, recurses := true, apart := false, narrowed := true }
def WordBackUptoSaid : Prop := wordBackUptoRow.holds Try.pinned (OpenSpec.upto wordBackSpec)

/-- 'seisinlaw1.WordParts', WHERE WHAT IT READS IS OF BULK AT MOST 1048576: true; the input reads as it did. -/
def wordPartsUptoRow : OpenClaim := { program := "ytdmpdfogilcjnaa", sum := "d3e5a2c62a4f407133c4f12731ae95444138c7849b2f245a646f34b3892433a1", func := "seisin/seisinlaw1.WordParts", spec := "wordParts", unfollowed := true, recurses := true, apart := false, narrowed := true }
def WordPartsUptoSaid : Prop := wordPartsUptoRow.holds Try.pinned (OpenSpec.upto wordPartsSpec)

/-- 'seisinlaw4.VaddrLevels', WHERE WHAT IT READS IS OF BULK AT MOST 1048576: true; the input reads as it did. -/
def vaddrLevelsUptoRow : OpenClaim := { program := "ytdmpdfogilcjnaa", sum := "d3e5a2c62a4f407133c4f12731ae95444138c7849b2f245a646f34b3892433a1", func := "seisin/seisinlaw4.VaddrLevels", spec := "vaddrLevels", apart := false, narrowed := true }
def VaddrLevelsUptoSaid : Prop := vaddrLevelsUptoRow.holds Try.pinned (OpenSpec.upto vaddrLevelsSpec)

/-- 'seisinlaw4.VaddrBack', WHERE WHAT IT READS IS OF BULK AT MOST 1048576: true; the input reads as it did. -/
def vaddrBackUptoRow : OpenClaim := { program := "ytdmpdfogilcjnaa", sum := "d3e5a2c62a4f407133c4f12731ae95444138c7849b2f245a646f34b3892433a1", func := "seisin/seisinlaw4.VaddrBack", spec := "vaddrBack", unfollowed := true, recurses := true, apart := false, narrowed := true }
def VaddrBackUptoSaid : Prop := vaddrBackUptoRow.holds Try.pinned (OpenSpec.upto vaddrBackSpec)

/-- 'seisinlaw4.VaddrJoins', WHERE WHAT IT READS IS OF BULK AT MOST 1048576: true; the input reads as it did. -/
def vaddrJoinsUptoRow : OpenClaim := { program := "ytdmpdfogilcjnaa", sum := "d3e5a2c62a4f407133c4f12731ae95444138c7849b2f245a646f34b3892433a1", func := "seisin/seisinlaw4.VaddrJoins", spec := "vaddrJoins", unfollowed := true, recurses := true, apart := false, narrowed := true }
def VaddrJoinsUptoSaid : Prop := vaddrJoinsUptoRow.holds Try.pinned (OpenSpec.upto vaddrJoinsSpec)

end Rows
end Go.Proofs.Ytdmpdfogilcjnaa
