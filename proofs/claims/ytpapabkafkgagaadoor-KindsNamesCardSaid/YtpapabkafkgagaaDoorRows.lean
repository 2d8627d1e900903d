/-
  NARROWER THAN 'FOR EVERY INPUT', by the rows' own cells (each row's printed sentence says how): KindsTells: laid · KindsNames: laid · KindsRoom: laid.
  DERIVED. THE GIVEN ROWS OF THIS SEAT. 3 by the template 'for every input the law returns true; each argument reads behind the call as it read before'; 0 by the template 'total and deterministic' (their statements: YtpapabkafkgagaaDoorTotals.lean).
  GIVEN WITH THE SEED: the statements are not yours to turn. If you find one false, say at which input.
  Laid BY PROGRAM, IN A SANDBOX (cutbox-rows.mjs): the forced cells as the released guide's own fill.sh prints them over the translation 14dc6790683c066f… (all of the seat's roots in one cut). By AI agents, Wed Nov 11 2026. No macro, syntax, notation, axiom, sorry.
-/
import Derived.Test.YtpapabkafkgagaaDoorChecked
import GoSem.Claim
import GoSem.ClaimJoined
import GoSem.ClaimMapViews
import Derived.JoinedTies
import Derived.KernelRfl
namespace Go.Proofs.YtpapabkafkgagaaDoor
/- THE CELL 'sum', in the pinned program and in every row, IS THE sha256 OF THE DUMP (.gsa) THAT YtpapabkafkgagaaDoorProg.lean LOADS. Nothing in Lean hashes anything: it is a label: what it is worth is what the hold of that sum in a sandbox is worth. -/
noncomputable def Tryd.pinned : Pinned := { name := "ytpapabkafkgagaadoor", sum := "14dc6790683c066fd48521b818aa44c0f124079dbc7c9b69690ce8c36692003e", checked := Tryd.checked }
namespace Rows
def none {H : Type} : Left H := { results := [], args := [] }

/- WHAT THE LISTED PACKAGE-LEVEL VARIABLES READ AS WHEN THE CALL BEGINS. Each datum BY PROGRAM (the guide's laid-datum.mjs) off the statement by which the dump's own 'gosem.cut.vars' lays the variable. In a bare row this is a premise. The card (YtpapabkafkgagaaDoorCards.lean) ties it to the program's text. -/
def laid_seisin_kinds_names {H : Type} : DataW H := .agg [.lit (.string [110, 111, 110, 101]), .lit (.string [117, 110, 116, 121, 112, 101, 100]), .lit (.string [110, 111, 100, 101]), .lit (.string [102, 114, 97, 109, 101]), .lit (.string [116, 97, 98, 108, 101]), .lit (.string [114, 111, 111, 116]), .lit (.string [112, 111, 111, 108]), .lit (.string [99, 111, 110, 116, 114, 111, 108]), .lit (.string [101, 110, 100, 112, 111, 105, 110, 116]), .lit (.string [116, 104, 114, 101, 97, 100])]

/-- 'seisinlaw10.KindsTells': WHATEVER THE INPUT: true; the input reads as it did. -/
def kindsTellsSpec : ChangeSpec := { name := "kindsTells", fn := fun _ => fun
  | [d1, d2] => { results := [.lit (.bool true)], args := [d1, d2] }
  | _ => none }
def kindsTellsRow : OpenClaim := { program := "ytpapabkafkgagaadoor", sum := "14dc6790683c066fd48521b818aa44c0f124079dbc7c9b69690ce8c36692003e", func := "seisin/seisinlaw10.KindsTells", spec := "kindsTells", named := ["seisin/kinds.names"], apart := false, laid := [("seisin/kinds.names", laid_seisin_kinds_names)] }
def KindsTellsSaid : Prop := kindsTellsRow.holds Tryd.pinned (OpenSpec.ofChange kindsTellsSpec)

/-- ITS FALSE NEIGHBOUR: 'it returns false'. Refute it at one input. -/
def kindsTellsWrong : ChangeSpec := { name := "kindsTells", fn := fun _ => fun
  | [d1, d2] => { results := [.lit (.bool false)], args := [d1, d2] }
  | _ => none }
def KindsTellsWrongFalsely : Prop := kindsTellsRow.holds Tryd.pinned (OpenSpec.ofChange kindsTellsWrong)

/-- 'seisinlaw10.KindsNames': WHATEVER THE INPUT: true; the input reads as it did. -/
def kindsNamesSpec : ChangeSpec := { name := "kindsNames", fn := fun _ => fun
  | [d] => { results := [.lit (.bool true)], args := [d] }
  | _ => none }
def kindsNamesRow : OpenClaim := { program := "ytpapabkafkgagaadoor", sum := "14dc6790683c066fd48521b818aa44c0f124079dbc7c9b69690ce8c36692003e", func := "seisin/seisinlaw10.KindsNames", spec := "kindsNames", named := ["seisin/kinds.names"], apart := false, laid := [("seisin/kinds.names", laid_seisin_kinds_names)] }
def KindsNamesSaid : Prop := kindsNamesRow.holds Tryd.pinned (OpenSpec.ofChange kindsNamesSpec)

/-- ITS FALSE NEIGHBOUR: 'it returns false'. Refute it at one input. -/
def kindsNamesWrong : ChangeSpec := { name := "kindsNames", fn := fun _ => fun
  | [d] => { results := [.lit (.bool false)], args := [d] }
  | _ => none }
def KindsNamesWrongFalsely : Prop := kindsNamesRow.holds Tryd.pinned (OpenSpec.ofChange kindsNamesWrong)

/-- 'seisinlaw10.KindsRoom': WHATEVER THE INPUT: true; the input reads as it did. -/
def kindsRoomSpec : ChangeSpec := { name := "kindsRoom", fn := fun _ => fun
  | [d] => { results := [.lit (.bool true)], args := [d] }
  | _ => none }
def kindsRoomRow : OpenClaim := { program := "ytpapabkafkgagaadoor", sum := "14dc6790683c066fd48521b818aa44c0f124079dbc7c9b69690ce8c36692003e", func := "seisin/seisinlaw10.KindsRoom", spec := "kindsRoom", named := ["seisin/kinds.names"], apart := false, laid := [("seisin/kinds.names", laid_seisin_kinds_names)] }
def KindsRoomSaid : Prop := kindsRoomRow.holds Tryd.pinned (OpenSpec.ofChange kindsRoomSpec)

/-- ITS FALSE NEIGHBOUR: 'it returns false'. Refute it at one input. -/
def kindsRoomWrong : ChangeSpec := { name := "kindsRoom", fn := fun _ => fun
  | [d] => { results := [.lit (.bool false)], args := [d] }
  | _ => none }
def KindsRoomWrongFalsely : Prop := kindsRoomRow.holds Tryd.pinned (OpenSpec.ofChange kindsRoomWrong)

/- THE SECOND FORM. 'bulk': how many values and letters a reading holds, each counted each time it is reached (what is shared counts as often as it is met; a slice's spare places count too). A statement '..UptoSaid' is the law's where the arguments, and the package variables that the reading takes, are together of bulk at most 1048576: NARROWER than '..Said'. Prove '..Said' where nothing that the law and all that it calls make is longer than what came in: it says more and counts as full. Else prove '..UptoSaid'. A law counts once. -/
mutual
def uptoBulk {H : Type} : DataW H → Nat
  | .lit (.string bytes) => bytes.length + 1
  | .lit _ => 1
  | .nil => 1
  | .ptr d => uptoBulk d + 1
  | .slice elems spare => uptoBulkAll elems + uptoBulkAll spare + 1
  | .agg parts => uptoBulkAll parts + 1
  | .iface _ d => uptoBulk d + 1
  | .map entries => uptoBulkEntries entries + 1
  | .held _ => 1
def uptoBulkAll {H : Type} : List (DataW H) → Nat
  | [] => 0
  | d :: r => uptoBulk d + uptoBulkAll r
def uptoBulkEntries {H : Type} : List (Lit × DataW H) → Nat
  | [] => 0
  | x :: r => uptoBulkEntry x + uptoBulkEntries r
def uptoBulkEntry {H : Type} : Lit × DataW H → Nat
  | (.string bytes, d) => bytes.length + uptoBulk d + 1
  | (_, d) => uptoBulk d + 1
 end
def uptoSmall : (H : Type) → List (DataW H) → Bool := fun _ ds => decide (uptoBulkAll ds ≤ 1048576)
def OpenSpec.upto (s : _root_.Go.ChangeSpec) : _root_.Go.OpenSpec := { _root_.Go.OpenSpec.ofChange s with cond := some uptoSmall }

/-- 'seisinlaw10.KindsTells', WHERE WHAT IT READS IS OF BULK AT MOST 1048576: true; the input reads as it did. -/
def kindsTellsUptoRow : OpenClaim := { program := "ytpapabkafkgagaadoor", sum := "14dc6790683c066fd48521b818aa44c0f124079dbc7c9b69690ce8c36692003e", func := "seisin/seisinlaw10.KindsTells", spec := "kindsTells", named := ["seisin/kinds.names"], apart := false, laid := [("seisin/kinds.names", laid_seisin_kinds_names)], narrowed := true }
def KindsTellsUptoSaid : Prop := kindsTellsUptoRow.holds Tryd.pinned (OpenSpec.upto kindsTellsSpec)

/-- 'seisinlaw10.KindsNames', WHERE WHAT IT READS IS OF BULK AT MOST 1048576: true; the input reads as it did. -/
def kindsNamesUptoRow : OpenClaim := { program := "ytpapabkafkgagaadoor", sum := "14dc6790683c066fd48521b818aa44c0f124079dbc7c9b69690ce8c36692003e", func := "seisin/seisinlaw10.KindsNames", spec := "kindsNames", named := ["seisin/kinds.names"], apart := false, laid := [("seisin/kinds.names", laid_seisin_kinds_names)], narrowed := true }
def KindsNamesUptoSaid : Prop := kindsNamesUptoRow.holds Tryd.pinned (OpenSpec.upto kindsNamesSpec)

/-- 'seisinlaw10.KindsRoom', WHERE WHAT IT READS IS OF BULK AT MOST 1048576: true; the input reads as it did. -/
def kindsRoomUptoRow : OpenClaim := { program := "ytpapabkafkgagaadoor", sum := "14dc6790683c066fd48521b818aa44c0f124079dbc7c9b69690ce8c36692003e", func := "seisin/seisinlaw10.KindsRoom", spec := "kindsRoom", named := ["seisin/kinds.names"], apart := false, laid := [("seisin/kinds.names", laid_seisin_kinds_names)], narrowed := true }
def KindsRoomUptoSaid : Prop := kindsRoomUptoRow.holds Tryd.pinned (OpenSpec.upto kindsRoomSpec)

end Rows
end Go.Proofs.YtpapabkafkgagaaDoor
