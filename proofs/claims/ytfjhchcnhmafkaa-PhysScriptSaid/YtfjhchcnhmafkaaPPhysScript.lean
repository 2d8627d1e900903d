/- PhysScript: the function returns true and leaves its arguments as they were, for every input of its types. No condition. -/
import Derived.Test.YtfjhchcnhmafkaaRows
import Derived.Test.YtfjhchcnhmafkaaLaw2d
import Derived.Test.YtfjhchcnhmafkaaActs2
namespace Go.Proofs.Ytfjhchcnhmafkaa.physScript
open Go.ChangeShapes Go.WideShapes Go.ChangeAt Go.RowKit
theorem maxle {n : Nat} (h : n ≤ maxLen) : n ≤ 9223372036854775807 := h
theorem own : ownKnob Try.prog.godebug = none := by kernel_rfl
theorem laid : laidOutB Try.prog = true := by kernel_rfl
theorem rd : ∀ t ∈ Try.f11.params.toList, Try.prog.readableRec t = true ∧ t < Try.prog.types.size := of_decide_eq_true (by kernel_rfl)
set_option maxRecDepth 100000 in
theorem lifted (os : Os) (started : os.Started) (H : Type) (enc : TypeId × Value → H) :
    ReturnsInHanded {} Try.checked os 11 .any (Rows.physScriptSpec.pre6 enc Try.prog Try.f11 Rows.physScriptRow.domain false) (Rows.physScriptSpec.post enc Try.prog Try.f11 false true false false) := by
  refine returnsInHanded_of_change (C := Try.checked) own started (by kernel_rfl) Try.func11
    (ChangeSpec.witness6 (enc := enc) (C := Try.checked) false ⟨#[], #[.int .i64 0, .slice none 0 0], []⟩ 8 (by kernel_rfl) (by kernel_rfl) (by kernel_rfl) (by kernel_rfl)) ?_
  intro W base args ds gs before hval0 hW _ _
  have hval : ∀ (j : Nat) t v, Try.f11.params[j]? = some t → args[j]? = some v → Value.okWide Try.prog W .any base t v := hval0
  have hW' := hW
  obtain ⟨p, q, hA0, hV, rfl, hfz, hnd⟩ := hW
  have hA : DataW.TrodAll enc Try.prog W 0 (fun _ => true) true Try.f11.params.toList args.toList ds p := hA0
  rw [Try.params11] at hA hval
  obtain ⟨v0, vs0, d0, ds0, p0, q0, hargs, rfl, rfl, h0, r0⟩ := trodAll_cons hA
  obtain ⟨v1, vs1, d1, ds1, p1, q1, rfl, rfl, rfl, h1, r1⟩ := trodAll_cons r0
  obtain ⟨rfl, rfl, rfl⟩ := trodAll_nil r1
  obtain rfl : args = #[v0, v1] := by cases args; simp_all
  obtain ⟨rfl, rfl⟩ := trodVars_none hV
  have hfin : ∀ W', Below W.heap.size W W' → Rows.physScriptSpec.post enc Try.prog Try.f11 false true false false W #[v0, v1] (.bool true) W' := fun W' hb =>
    post_law laid rd rfl rfl Try.underlying4 hW' rfl rfl rfl hb
  obtain ⟨a0, rfl, rfl, rfl, w0⟩ := open_int Try.underlying3 (hval 0 3 v0 rfl rfl) h0
  obtain ⟨A1, n1, c1, xs1, rfl, w1, f1⟩ := open_acts2 (hval 1 35 v1 rfl rfl) h1
  refine (law_PhysScript W a0 A1 n1 c1 xs1 w0 f1 (maxle w1)).mono fun e W' ⟨he, hb⟩ => ?_
  subst he
  exact ⟨_, rfl, hfin W' hb⟩
theorem over : Rows.physScriptRow.holds Try.pinned (OpenSpec.ofChange Rows.physScriptSpec) :=
  OpenClaim.holds_of_wide 11 Try.f11 rfl rfl rfl rfl rfl rfl rfl ⟨rfl, rfl, rfl, rfl, rfl⟩ rfl rfl rfl rfl rfl (by kernel_rfl) Try.func11 (by kernel_rfl)
    (of_decide_eq_true (by kernel_rfl)) (by unfold Func.isWrapper; rw [if_neg (by decide +kernel)]; exact ⟨rfl, rfl⟩)
    (fun os started H enc _ => lifted os started H enc)
end Go.Proofs.Ytfjhchcnhmafkaa.physScript
namespace Go.Proofs.Ytfjhchcnhmafkaa
theorem provedPhysScript : Rows.PhysScriptSaid := physScript.over
#print axioms provedPhysScript
end Go.Proofs.Ytfjhchcnhmafkaa
