/- CoresShoot: the function returns true and leaves its arguments as they were, for every input of its types. No condition. -/
import Derived.Test.YtjnnimdgmcpjoaaRows
import Derived.Test.YtjnnimdgmcpjoaaLaw7i
import Derived.Test.YtjnnimdgmcpjoaaInts
namespace Go.Proofs.Ytjnnimdgmcpjoaa.coresShoot
open Go.ChangeShapes Go.WideShapes Go.ChangeAt Go.RowKit
theorem maxle {n : Nat} (h : n ≤ maxLen) : n ≤ 9223372036854775807 := h
theorem own : ownKnob Try.prog.godebug = none := by kernel_rfl
theorem laid : laidOutB Try.prog = true := by kernel_rfl
theorem rd : ∀ t ∈ Try.f6.params.toList, Try.prog.readableRec t = true ∧ t < Try.prog.types.size := of_decide_eq_true (by kernel_rfl)
set_option maxRecDepth 100000 in
theorem lifted (os : Os) (started : os.Started) (H : Type) (enc : TypeId × Value → H) :
    ReturnsInHanded {} Try.checked os 6 .any (Rows.coresShootSpec.pre6 enc Try.prog Try.f6 Rows.coresShootRow.domain false) (Rows.coresShootSpec.post enc Try.prog Try.f6 false true false false) := by
  refine returnsInHanded_of_change (C := Try.checked) own started (by kernel_rfl) Try.func6
    (ChangeSpec.witness6 (enc := enc) (C := Try.checked) false ⟨#[], #[.slice none 0 0, .slice none 0 0, .int .i64 0, .int .i64 0, .bool false], []⟩ 8 (by kernel_rfl) (by kernel_rfl) (by kernel_rfl) (by kernel_rfl)) ?_
  intro W base args ds gs before hval0 hW _ _
  have hval : ∀ (j : Nat) t v, Try.f6.params[j]? = some t → args[j]? = some v → Value.okWide Try.prog W .any base t v := hval0
  have hW' := hW
  obtain ⟨p, q, hA0, hV, rfl, hfz, hnd⟩ := hW
  have hA : DataW.TrodAll enc Try.prog W 0 (fun _ => true) true Try.f6.params.toList args.toList ds p := hA0
  rw [Try.params6] at hA hval
  obtain ⟨v0, vs0, d0, ds0, p0, q0, hargs, rfl, rfl, h0, r0⟩ := trodAll_cons hA
  obtain ⟨v1, vs1, d1, ds1, p1, q1, rfl, rfl, rfl, h1, r1⟩ := trodAll_cons r0
  obtain ⟨v2, vs2, d2, ds2, p2, q2, rfl, rfl, rfl, h2, r2⟩ := trodAll_cons r1
  obtain ⟨v3, vs3, d3, ds3, p3, q3, rfl, rfl, rfl, h3, r3⟩ := trodAll_cons r2
  obtain ⟨v4, vs4, d4, ds4, p4, q4, rfl, rfl, rfl, h4, r4⟩ := trodAll_cons r3
  obtain ⟨rfl, rfl, rfl⟩ := trodAll_nil r4
  obtain rfl : args = #[v0, v1, v2, v3, v4] := by cases args; simp_all
  obtain ⟨rfl, rfl⟩ := trodVars_none hV
  have hfin : ∀ W', Below W.heap.size W W' → Rows.coresShootSpec.post enc Try.prog Try.f6 false true false false W #[v0, v1, v2, v3, v4] (.bool true) W' := fun W' hb =>
    post_law laid rd rfl rfl Try.underlying4 hW' rfl rfl rfl hb
  obtain ⟨A0, n0, c0, xs0, rfl, w0, f0⟩ := open_i64s (hval 0 22 v0 rfl rfl) h0
  obtain ⟨A1, n1, c1, xs1, rfl, w1, f1⟩ := open_i64s (hval 1 22 v1 rfl rfl) h1
  obtain ⟨a2, rfl, rfl, rfl, w2⟩ := open_int Try.underlying3 (hval 2 3 v2 rfl rfl) h2
  obtain ⟨a3, rfl, rfl, rfl, w3⟩ := open_int Try.underlying3 (hval 3 3 v3 rfl rfl) h3
  obtain ⟨a4, rfl, rfl, rfl⟩ := open_bool Try.underlying4 (hval 4 4 v4 rfl rfl) h4
  refine (law_CoresShoot W a2 a3 a4 A0 n0 c0 xs0 A1 n1 c1 xs1 f0 (maxle w0) f1).mono fun e W' ⟨he, hb⟩ => ?_
  subst he
  exact ⟨_, rfl, hfin W' hb⟩
theorem over : Rows.coresShootRow.holds Try.pinned (OpenSpec.ofChange Rows.coresShootSpec) :=
  OpenClaim.holds_of_wide 6 Try.f6 rfl rfl rfl rfl rfl rfl rfl ⟨rfl, rfl, rfl, rfl, rfl⟩ rfl rfl rfl rfl rfl (by kernel_rfl) Try.func6 (by kernel_rfl)
    (of_decide_eq_true (by kernel_rfl)) (by unfold Func.isWrapper; rw [if_neg (by decide +kernel)]; exact ⟨rfl, rfl⟩)
    (fun os started H enc _ => lifted os started H enc)
end Go.Proofs.Ytjnnimdgmcpjoaa.coresShoot
namespace Go.Proofs.Ytjnnimdgmcpjoaa
theorem provedCoresShoot : Rows.CoresShootSaid := coresShoot.over
#print axioms provedCoresShoot
end Go.Proofs.Ytjnnimdgmcpjoaa
