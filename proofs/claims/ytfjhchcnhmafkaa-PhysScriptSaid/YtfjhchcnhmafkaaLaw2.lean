/- The walks of the statements of chapter 2: each returns true. -/
import Derived.Test.YtfjhchcnhmafkaaPhys
namespace Go.Proofs.Ytfjhchcnhmafkaa
open Go.RowKit
set_option maxHeartbeats 1000000 in
theorem awake2 (w : World) : Calls Try.prog 19 #[] w fun e w' => e = .returned (.bool true) ∧ Below w.heap.size w w' := by
  go_enter Try.func19, Try.ntmps19
  go_wp2_with fail
  refine (new_in 2 _ (by decide) (by decide)).mono ?_
  rintro e w1 ⟨rfl, hM, hb⟩
  have HM := hide hM
  have HB := hide hb
  clear hM hb
  go_wp2_with fail
  refine (store_in _ _ _ _ _ 9 5 _ HM.out (by decide)).mono ?_
  rintro e w2 ⟨rfl, rfl⟩
  have HM2 := hide (HM.out.set_ 9 (by decide) 5 (by decide))
  have HB2 := hide (HB.out.setCell (p := ⟨w.heap.size, 9, none⟩) (Nat.le_refl _) (.int .u64 5))
  generalize w1.setCell ⟨w.heap.size, 9, none⟩ (.int .u64 5) = w3 at *
  go_wp2_with fail
  refine (load_in _ _ _ _ _ 9 _ HM2.out (by decide)).mono ?_
  rintro e w4 ⟨rfl, rfl⟩
  go_wp2_with fail
  refine (pframes_any _ _ _ _ _ _ HM2.out).mono ?_
  rintro e w4 ⟨rfl, rfl⟩
  go_wp2_with fail
  go_ret
  exact ⟨rfl, HB2.out⟩
set_option maxHeartbeats 1000000 in
theorem law_PhysNone (a v f : Int) (_ : (Lit.int .u64 a).wf = true) (_ : (Lit.int .u64 v).wf = true) (_ : (Lit.int .i64 f).wf = true) (w : World) : Calls Try.prog 12 #[.int .u64 a, .int .u64 v, .int .i64 f] w fun e w' => e = .returned (.bool true) ∧ Below w.heap.size w w' := by
  go_enter Try.func12, Try.ntmps12
  go_wp2_with fail
  refine (load_nil _ _).mono ?_
  rintro e w' ⟨rfl, rfl⟩
  go_wp2_with fail
  refine (words_nil _ _).mono ?_
  rintro e w' ⟨rfl, rfl⟩
  go_wp2_with fail
  refine (store_nil _ _ _).mono ?_
  rintro e w' ⟨rfl, rfl⟩
  go_wp2_with fail
  refine (zero_nil _ _ _).mono ?_
  rintro e w1 ⟨rfl, hb⟩
  have HB := hide hb
  clear hb
  go_wp2_with fail
  refine (frames_nil _).mono ?_
  rintro e w' ⟨rfl, rfl⟩
  go_wp2_with fail
  refine (copy_nil _).mono ?_
  rintro e w' ⟨rfl, rfl⟩
  go_wp2_with fail
  refine (awake2 _).mono ?_
  rintro e w2 ⟨rfl, hb⟩
  have HB2 := hide hb
  clear hb
  go_wp2_with fail
  go_ret
  exact ⟨rfl, HB.out.trans (HB2.out.mono HB.out.size)⟩
end Go.Proofs.Ytfjhchcnhmafkaa
