/- TlbFilled: the function returns true and leaves its arguments as they were, for every input of its types. No condition. -/
import Derived.Test.YtfjhchcnhmafkaaRows
import Derived.Test.YtfjhchcnhmafkaaLaw6e
import Derived.Test.YtfjhchcnhmafkaaAgg
namespace Go.Proofs.Ytfjhchcnhmafkaa.tlbFilled
open Go.ChangeShapes Go.WideShapes Go.ChangeAt Go.RowKit
theorem maxle {n : Nat} (h : n ≤ maxLen) : n ≤ 9223372036854775807 := h
open Go.Joins
theorem own : ownKnob Try.prog.godebug = none := by kernel_rfl
theorem laid : laidOutB Try.prog = true := by kernel_rfl
theorem rd : ∀ t ∈ Try.f6.params.toList, Try.prog.readableRec t = true ∧ t < Try.prog.types.size := of_decide_eq_true (by kernel_rfl)
theorem cells28 : Try.prog.cellsOf 28 = 5 := by kernel_rfl
set_option maxRecDepth 100000 in
theorem lifted (os : Os) (started : os.Started) (H : Type) (enc : TypeId × Value → H) :
    ReturnsInHanded {} Try.checked os 6 .any (Rows.tlbFilledSpec.pre6 enc Try.prog Try.f6 Rows.tlbFilledRow.domain false) (Rows.tlbFilledSpec.post enc Try.prog Try.f6 false true false false) := by
  refine returnsInHanded_of_change (C := Try.checked) own started (by kernel_rfl) Try.func6
    (ChangeSpec.witness6 (enc := enc) (C := Try.checked) false ⟨#[], #[.slice none 0 0, .agg #[.int .i64 0, .int .i64 0, .int .i64 0, .bool false, .bool false]], []⟩ 8 (by kernel_rfl) (by kernel_rfl) (by kernel_rfl) (by kernel_rfl)) ?_
  intro W base args ds gs before hval0 hW _ _
  have hval : ∀ (j : Nat) t v, Try.f6.params[j]? = some t → args[j]? = some v → Value.okWide Try.prog W .any base t v := hval0
  have hW' := hW
  obtain ⟨p, q, hA0, hV, rfl, hfz, hnd⟩ := hW
  have hA : DataW.TrodAll enc Try.prog W 0 (fun _ => true) true Try.f6.params.toList args.toList ds p := hA0
  rw [Try.params6] at hA hval
  obtain ⟨v0, vs0, d0, ds0, p0, q0, hargs, rfl, rfl, h0, r0⟩ := trodAll_cons hA
  obtain ⟨v1, vs1, d1, ds1, p1, q1, rfl, rfl, rfl, h1, r1⟩ := trodAll_cons r0
  obtain ⟨rfl, rfl, rfl⟩ := trodAll_nil r1
  obtain rfl : args = #[v0, v1] := by cases args; simp_all
  obtain ⟨rfl, rfl⟩ := trodVars_none hV
  have hfin : ∀ W', Below W.heap.size W W' → Rows.tlbFilledSpec.post enc Try.prog Try.f6 false true false false W #[v0, v1] (.bool true) W' := fun W' hb =>
    post_law laid rd rfl rfl Try.underlying4 hW' rfl rfl rfl hb
  obtain ⟨A0, n0, c0, xs0, rfl, w0, f0⟩ := open_acts6 (hval 0 53 v0 rfl rfl) h0
  obtain ⟨c1_0, c1_1, c1_2, c1_3, c1_4, y1_0, y1_1, y1_2, y1_3, y1_4, m1, rfl, rfl, rfl, g1_0, g1_1, g1_2, g1_3, g1_4⟩ := open_agg5 Try.underlying28 (by kernel_rfl) cells28 (hval 1 28 v1 rfl rfl) h1
  obtain ⟨a1_0, e1_0, _, w1_0⟩ := DataW.trod_int Try.underlying3 g1_0
  simp at e1_0
  subst e1_0
  obtain ⟨a1_1, e1_1, _, w1_1⟩ := DataW.trod_int Try.underlying3 g1_1
  simp at e1_1
  subst e1_1
  obtain ⟨a1_2, e1_2, _, w1_2⟩ := DataW.trod_int Try.underlying3 g1_2
  simp at e1_2
  subst e1_2
  obtain ⟨a1_3, e1_3, _⟩ := DataW.trod_bool Try.underlying4 g1_3
  simp at e1_3
  subst e1_3
  obtain ⟨a1_4, e1_4, _⟩ := DataW.trod_bool Try.underlying4 g1_4
  simp at e1_4
  subst e1_4
  refine (law_TlbFilled W A0 n0 c0 xs0 a1_0 a1_1 a1_2 a1_3 a1_4 f0 (maxle w0) w1_0 w1_1 w1_2).mono fun e W' ⟨he, hb⟩ => ?_
  subst he
  exact ⟨_, rfl, hfin W' hb⟩
theorem over : Rows.tlbFilledRow.holds Try.pinned (OpenSpec.ofChange Rows.tlbFilledSpec) :=
  OpenClaim.holds_of_wide 6 Try.f6 rfl rfl rfl rfl rfl rfl rfl ⟨rfl, rfl, rfl, rfl, rfl⟩ rfl rfl rfl rfl rfl (by kernel_rfl) Try.func6 (by kernel_rfl)
    (of_decide_eq_true (by kernel_rfl)) (by unfold Func.isWrapper; rw [if_neg (by decide +kernel)]; exact ⟨rfl, rfl⟩)
    (fun os started H enc _ => lifted os started H enc)
end Go.Proofs.Ytfjhchcnhmafkaa.tlbFilled
namespace Go.Proofs.Ytfjhchcnhmafkaa
theorem provedTlbFilled : Rows.TlbFilledSaid := tlbFilled.over
#print axioms provedTlbFilled
end Go.Proofs.Ytfjhchcnhmafkaa
