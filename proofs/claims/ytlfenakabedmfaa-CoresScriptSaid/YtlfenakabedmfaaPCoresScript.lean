/- CoresScript: the function returns true and leaves its arguments as they were, for every input of its types. No condition. -/
import Derived.Test.YtlfenakabedmfaaRows
import Derived.Test.YtlfenakabedmfaaLaw7j
namespace Go.Proofs.Ytlfenakabedmfaa.coresScript
open Go.ChangeShapes Go.WideShapes Go.ChangeAt Go.RowKit
theorem maxle {n : Nat} (h : n ≤ maxLen) : n ≤ 9223372036854775807 := h
theorem own : ownKnob Try.prog.godebug = none := by kernel_rfl
theorem laid : laidOutB Try.prog = true := by kernel_rfl
theorem rd : ∀ t ∈ Try.f9.params.toList, Try.prog.readableRec t = true ∧ t < Try.prog.types.size := of_decide_eq_true (by kernel_rfl)
set_option maxRecDepth 100000 in
theorem lifted (os : Os) (started : os.Started) (H : Type) (enc : TypeId × Value → H) :
    ReturnsInHanded {} Try.checked os 9 .any (Rows.coresScriptSpec.pre6 enc Try.prog Try.f9 Rows.coresScriptRow.domain false) (Rows.coresScriptSpec.post enc Try.prog Try.f9 false true false false) := by
  refine returnsInHanded_of_change (C := Try.checked) own started (by kernel_rfl) Try.func9
    (ChangeSpec.witness6 (enc := enc) (C := Try.checked) false ⟨#[], #[.int .i64 0, .slice none 0 0, .slice none 0 0], []⟩ 8 (by kernel_rfl) (by kernel_rfl) (by kernel_rfl) (by kernel_rfl)) ?_
  intro W base args ds gs before hval0 hW _ _
  have hval : ∀ (j : Nat) t v, Try.f9.params[j]? = some t → args[j]? = some v → Value.okWide Try.prog W .any base t v := hval0
  have hW' := hW
  obtain ⟨p, q, hA0, hV, rfl, hfz, hnd⟩ := hW
  have hA : DataW.TrodAll enc Try.prog W 0 (fun _ => true) true Try.f9.params.toList args.toList ds p := hA0
  rw [Try.params9] at hA hval
  obtain ⟨v0, vs0, d0, ds0, p0, q0, hargs, rfl, rfl, h0, r0⟩ := trodAll_cons hA
  obtain ⟨v1, vs1, d1, ds1, p1, q1, rfl, rfl, rfl, h1, r1⟩ := trodAll_cons r0
  obtain ⟨v2, vs2, d2, ds2, p2, q2, rfl, rfl, rfl, h2, r2⟩ := trodAll_cons r1
  obtain ⟨rfl, rfl, rfl⟩ := trodAll_nil r2
  obtain rfl : args = #[v0, v1, v2] := by cases args; simp_all
  obtain ⟨rfl, rfl⟩ := trodVars_none hV
  have hfin : ∀ W', Below W.heap.size W W' → Rows.coresScriptSpec.post enc Try.prog Try.f9 false true false false W #[v0, v1, v2] (.bool true) W' := fun W' hb =>
    post_law laid rd rfl rfl Try.underlying4 hW' rfl rfl rfl hb
  obtain ⟨a0, rfl, rfl, rfl, w0⟩ := open_int Try.underlying3 (hval 0 3 v0 rfl rfl) h0
  obtain ⟨A1, n1, c1, xs1, rfl, w1, f1⟩ := open_u64s (hval 1 67 v1 rfl rfl) h1
  obtain ⟨A2, n2, c2, xs2, rfl, w2, f2⟩ := open_acts7 (hval 2 44 v2 rfl rfl) h2
  refine (law_CoresScript W a0 A1 n1 c1 xs1 f1 (maxle w1) A2 n2 c2 xs2 f2 (maxle w2)).mono fun e W' ⟨he, hb⟩ => ?_
  subst he
  exact ⟨_, rfl, hfin W' hb⟩
theorem over : Rows.coresScriptRow.holds Try.pinned (OpenSpec.ofChange Rows.coresScriptSpec) :=
  OpenClaim.holds_of_wide 9 Try.f9 rfl rfl rfl rfl rfl rfl rfl ⟨rfl, rfl, rfl, rfl, rfl⟩ rfl rfl rfl rfl rfl (by kernel_rfl) Try.func9 (by kernel_rfl)
    (of_decide_eq_true (by kernel_rfl)) (by unfold Func.isWrapper; rw [if_neg (by decide +kernel)]; exact ⟨rfl, rfl⟩)
    (fun os started H enc _ => lifted os started H enc)
end Go.Proofs.Ytlfenakabedmfaa.coresScript
namespace Go.Proofs.Ytlfenakabedmfaa
theorem provedCoresScript : Rows.CoresScriptSaid := coresScript.over
#print axioms provedCoresScript
end Go.Proofs.Ytlfenakabedmfaa
