/- KindsNames: the function returns true and leaves its arguments as they were, for every input of its types, where the names of the kinds read as the program's text lays them; and the card: that data tied to the text. -/
import Derived.Test.YtpapabkafkgagaaDoorLaw10
import Derived.Test.YtpapabkafkgagaaDoorCards
import Derived.Test.YtpapabkafkgagaaDoorTie
import Derived.ProofKit
import Derived.LaidMore
import Derived.OpenShut
import Derived.MakeChecks
import Derived.FnData
import Derived.SevenTiedAt
namespace Go.Proofs.YtpapabkafkgagaaDoor.kindsNames
open Go.ChangeShapes Go.WideShapes Go.ChangeAt Go.WideMaps Go.WideElems Go.RowKit
open Go.ChangeMaps (open_string shut_string)
theorem own : ownKnob Tryd.prog.godebug = none := by kernel_rfl
theorem laid : laidOutB Tryd.prog = true := by kernel_rfl
theorem rd : ∀ t ∈ Tryd.f4.params.toList, Tryd.prog.readableRec t = true ∧ t < Tryd.prog.types.size := of_decide_eq_true (by kernel_rfl)
theorem gN : Tryd.prog.globalNamed "seisin/kinds.names" = some 0 := by kernel_rfl
theorem tN : (Tryd.prog.globals[0]?).map (·.type) = some 31 := by kernel_rfl
def theLaid : List (String × DataW Unit) := [("seisin/kinds.names", Rows.laid_seisin_kinds_names)]
/-- The door's own heap meets the condition: closed facts. -/
theorem door_met (os : Os) (args : Array Value) : laidMetH Tryd.prog theLaid ((World.doorLaid Tryd.prog 14 os).forCall (fun _ _ => 0) ⟨#[], args, []⟩).memory :=
  laidMetH_of_parts3 (fuel := 8) (laidMet_of_run' 8 (by kernel_rfl) (by kernel_rfl)) (by kernel_rfl) (by kernel_rfl)
/-- What the condition gives the walks: the ten names' cells. -/
theorem of_laid {W : World} (h : laidMetH Tryd.prog theLaid W) : NamesAt W := by
  rw [MakeChecks.laidMetH_plain _ _ _ (by kernel_rfl)] at h
  obtain ⟨ps, ⟨g0, t0, cs0, f0, p0, q0, hg0, ht0, hv0, hd0, _, _⟩, _, _⟩ := h
  obtain rfl := Option.some.inj (gN.symm.trans hg0)
  obtain rfl := Option.some.inj (tN.symm.trans ht0)
  obtain ⟨xs, m, _, hx, hlen, hn, hel⟩ := DataW.trod_array Tryd.underlying31 hd0
  have c31 : Tryd.prog.cellsOf 31 = 10 := by kernel_rfl
  have c9 : Tryd.prog.cellsOf 9 = 1 := by kernel_rfl
  rw [c31] at hlen
  rw [c9] at hel
  simp only [Prod.mk.injEq] at hx
  obtain ⟨hx1, _⟩ := hx
  have hx2 := DataW.agg.inj hx1
  have hget : ∀ (i : Nat) (l : List UInt8), i < 10 → (xs.map (·.1))[i]? = some (DataW.lit (.string l)) → cs0.toList[i]? = some (.string ⟨l.toArray⟩) := by
    intro i l hi hl
    have h1 := hel i hi
    rw [List.getElem?_map] at hl
    cases hxi : xs[i]? with
    | none => rw [hxi] at hl; cases hl
    | some x =>
      rw [hxi] at hl h1
      obtain ⟨s, hs, rfl, _⟩ := DataW.trod_string Tryd.underlying9 h1
      simp only [Option.map_some, Option.some.injEq, DataW.lit.injEq, Lit.string.injEq] at hl
      have h2 : cs0.toList[i]? = some (.string s) := by
        have := congrArg (fun l => l[0]?) hs
        simpa using this
      rw [h2, ← hl]
  rw [← hx2] at hget
  have hcs : cs0 = namesA := by
    obtain ⟨cl⟩ := cs0
    match cl, hlen with
    | [x0, x1, x2, x3, x4, x5, x6, x7, x8, x9], _ =>
      have e0 := hget 0 _ (by decide) rfl
      have e1 := hget 1 _ (by decide) rfl
      have e2 := hget 2 _ (by decide) rfl
      have e3 := hget 3 _ (by decide) rfl
      have e4 := hget 4 _ (by decide) rfl
      have e5 := hget 5 _ (by decide) rfl
      have e6 := hget 6 _ (by decide) rfl
      have e7 := hget 7 _ (by decide) rfl
      have e8 := hget 8 _ (by decide) rfl
      have e9 := hget 9 _ (by decide) rfl
      simp only [List.getElem?_cons_zero, List.getElem?_cons_succ, Option.some.injEq] at e0 e1 e2 e3 e4 e5 e6 e7 e8 e9
      subst e0 e1 e2 e3 e4 e5 e6 e7 e8 e9
      rfl
  subst hcs
  simp only [World.var?, hg0, Option.bind_some] at hv0
  split at hv0
  · rename_i c t fr hb
    cases hv0
    exact ⟨t, fr, hb⟩
  · cases hv0
set_option maxRecDepth 100000 in
theorem lifted (os : Os) (started : os.Started) (H : Type) (enc : TypeId × Value → H) :
    ReturnsInHanded {} Tryd.checked os 4 .any (fun w args => (Rows.kindsNamesSpec.pre enc Tryd.prog Tryd.f4 [] false w args ∧ laidMetH Tryd.prog theLaid w) ∧ sizedMet enc Tryd.prog Tryd.f4 (OpenSpec.ofChange Rows.kindsNamesSpec) false w args)
      (Rows.kindsNamesSpec.post enc Tryd.prog Tryd.f4 false true false false) := by
  refine returnsInHanded_of_change_and (C := Tryd.checked) (X := fun w _ => laidMetH Tryd.prog theLaid w) (fun _ _ _ hh h => h.of_heap hh) own started (by kernel_rfl) Tryd.func4
    (ChangeSpec.witness_shaped (enc := enc) (C := Tryd.checked) (os := os) (X := fun w _ => laidMetH Tryd.prog theLaid w) false (World.doorLaid Tryd.prog 14 os) #[.string ByteArray.empty] 8 rfl (World.shaped_of_RefB (by kernel_rfl) (by kernel_rfl)) (by kernel_rfl) (by kernel_rfl) (by kernel_rfl) (door_met os _)) ?_
  intro W base args ds gs before hval0 hW _ _ hL _
  have hval : ∀ (j : Nat) t v, Tryd.f4.params[j]? = some t → args[j]? = some v → Value.okWide Tryd.prog W .any base t v := hval0
  have hW' := hW
  obtain ⟨p, q, hA0, hV, rfl, hfz, hnd⟩ := hW
  have hA : DataW.TrodAll enc Tryd.prog W 0 (fun _ => true) true Tryd.f4.params.toList args.toList ds p := hA0
  rw [Tryd.params4] at hA hval
  obtain ⟨v0, vs0, d0, ds0, p0, q0, hargs0, rfl, rfl, h0, r0⟩ := trodAll_cons hA
  obtain ⟨rfl, rfl, rfl⟩ := trodAll_nil r0
  obtain rfl : args = #[v0] := by cases args; simp_all
  obtain ⟨rfl, rfl⟩ := trodVars_none hV
  have hfin : ∀ W', Below W.heap.size W W' → Rows.kindsNamesSpec.post enc Tryd.prog Tryd.f4 false true false false W #[v0] (.bool true) W' := fun W' hb =>
    post_law laid rd rfl rfl Tryd.underlying4 hW' rfl rfl rfl hb
  obtain ⟨a0, rfl, rfl, rfl, _⟩ := open_string Tryd.underlying9 (hval 0 9 v0 rfl rfl) h0
  refine (law_KindsNames a0 W (of_laid hL)).mono fun e W' ⟨he, hb⟩ => ?_
  subst he
  subst hb
  exact ⟨_, rfl, hfin W (Below.refl _ _)⟩
theorem over : Rows.KindsNamesSaid :=
  OpenClaim.holds_of_wide 4 Tryd.f4 rfl rfl rfl rfl rfl rfl rfl ⟨rfl, rfl, rfl, rfl, rfl⟩ rfl rfl rfl rfl rfl (by kernel_rfl) Tryd.func4 (by kernel_rfl)
    (of_decide_eq_true (by kernel_rfl)) (by unfold Func.isWrapper; first | (rw [if_pos (by decide +kernel)]; kernel_rfl) | (rw [if_neg (by decide +kernel)]; exact ⟨rfl, rfl⟩))
    (fun os started H enc _ => lifted os started H enc)
theorem card : Rows.KindsNamesCardSaid :=
  Claim7.holds_tied_plain_at .later [] [.data] true (true, "ac262acaa523c78c559f6f19a391a7004bcc799e66daf672cd5534e6fd10f120") false
    over (fun _ h => by cases h) (by kernel_rfl) (fun _ h => by cases h) kindsNames_row_tie rfl ⟨rfl, rfl⟩ (by kernel_rfl) rfl
    (fun f fn hf hfn => by
      obtain rfl : f = 4 := Option.some.inj ((show Tryd.prog.funcNamed "seisin/seisinlaw10.KindsNames" = some 4 by kernel_rfl).symm.trans hf) |>.symm
      obtain rfl : fn = Tryd.f4 := (Option.some.inj (Tryd.func4.symm.trans hfn)).symm
      exact ⟨by kernel_rfl, fun j t ht => by
        rw [Tryd.params4] at ht
        have hm : t ∈ [9] := by simpa using Array.mem_of_getElem? ht
        have hall : ([9].all fun u => !Tryd.prog.wantsStandIn u) = true := by kernel_rfl
        exact (show Tryd.prog.wantsStandIn t = false by simpa using List.all_eq_true.1 hall t hm)⟩)
    (by kernel_rfl)
end Go.Proofs.YtpapabkafkgagaaDoor.kindsNames
namespace Go.Proofs.YtpapabkafkgagaaDoor
theorem provedKindsNames : Rows.KindsNamesCardSaid := kindsNames.card
#print axioms provedKindsNames
end Go.Proofs.YtpapabkafkgagaaDoor
