/- The walk of Alike: two memories that hold the same. -/
import Derived.Test.YtlfenakabedmfaaRef2
import Derived.Test.YtlfenakabedmfaaSame2
import Derived.Test.YtlfenakabedmfaaPhys
namespace Go.Proofs.Ytlfenakabedmfaa
open Go.RowKit
theorem frameA_get (m : Nat → Int) (f : Nat) {j : Nat} (hj : j < 8) : (frameA m f)[j]? = some (.int .u64 (m (f * 8 + j))) := by
  match j, hj with
  | 0, _ => rfl
  | 1, _ => rfl
  | 2, _ => rfl
  | 3, _ => rfl
  | 4, _ => rfl
  | 5, _ => rfl
  | 6, _ => rfl
  | 7, _ => rfl
set_option maxHeartbeats 2000000 in
theorem alike_any (g gf n cp rg rf rc : Nat) (m : Nat → Int) (w : World) (hm : MemAt w g gf n cp m) (hr : RefAt w rg rf n rc m) :
    Calls Try.prog 41 #[.pointer (some ⟨g, 0, none⟩), .pointer (some ⟨rg, 0, none⟩)] w fun e w' => e = .returned (.bool true) ∧ Below w.heap.size w w' := by
  have hn := hm.le
  have HM := hide hm
  have HR := hide hr
  clear hm hr
  go_enter Try.func41, Try.ntmps41
  go_wp2_with fail
  refine (pframes_any _ _ _ _ _ _ HM.out).mono ?_
  rintro e w' ⟨rfl, rfl⟩
  go_wp2_with fail
  refine (rframes_any _ _ _ _ _ _ HR.out).mono ?_
  rintro e w' ⟨rfl, rfl⟩
  go_wp2_with fail
  go_loopw [5] (fun i wr => ∃ j : Nat, j ≤ n ∧ i = .int .i64 j ∧ MemAt wr g gf n cp m ∧ RefAt wr rg rf n rc m ∧ Below w.heap.size w wr) (fun i _ => n - (intOf i).toNat)
  case atStart => exact ⟨0, Nat.zero_le _, rfl, HM.out, HR.out, Below.refl _ _⟩
  case round =>
    obtain ⟨f, hf, rfl, hm, hr, hb⟩ := hrel
    have HM6 := hide hm
    have HR6 := hide hr
    have HB6 := hide hb
    clear hm hr hb
    by_cases hlt3 : f < n
    · go_wp2_with fail
      refine (rframes_any _ _ _ _ _ _ HR6.out).mono ?_
      rintro e w' ⟨rfl, rfl⟩
      go_wp2_with fail
      refine (words_in _ _ _ _ _ _ _ HM6.out hlt3).mono ?_
      rintro e w4 ⟨rfl, hw4⟩
      have bl4 : Blk w4 wr.heap.size 152 (frameA m f) := by rw [hw4]; exact Blk.new _ _ _
      have be4 : Below wr.heap.size wr w4 := by rw [hw4]; exact (Below.refl _ _).alloc (Nat.le_refl _) _
      have HL4 := hide bl4
      have HE4 := hide be4
      clear bl4 be4 hw4
      go_wp2_with fail
      refine (rwords_in _ _ _ _ _ _ _ (HR6.out.below HE4.out HR6.out.hd.lt HR6.out.ltf) hlt3).mono ?_
      rintro e w5 ⟨b5, c5, rfl, hb5, hc5, be5⟩
      have bl4' : Blk w5 wr.heap.size 152 (frameA m f) := HL4.out.below be5 HL4.out.lt
      have HC5 := hide hc5
      have HL4' := hide bl4'
      have HE5 := hide be5
      clear hc5 be5 bl4'
      go_wp2_with fail
      refine (sameWords_yes _ _ 8 _ _ (fun j => m (f * 8 + j)) _ (by decide) (fun j hj => (HL4'.out.cell j).trans (frameA_get m f hj)) HC5.out).mono ?_
      rintro e w6 ⟨rfl, hb6⟩
      have HE6 := hide (HE4.out.trans ((HE5.out.mono HE4.out.size).trans (hb6.mono (Nat.le_trans HE4.out.size HE5.out.size))))
      clear hb6
      go_wp2
      go_roundw
      case rel => exact ⟨f + 1, by omega, by simp, HM6.out.below HE6.out HM6.out.hd.lt HM6.out.ltf, HR6.out.below HE6.out HR6.out.hd.lt HR6.out.ltf, HB6.out.trans (HE6.out.mono HB6.out.size)⟩
      case measure => simp [intOf]; omega
    · go_wp2_with fail
      refine (rframes_any _ _ _ _ _ _ HR6.out).mono ?_
      rintro e w' ⟨rfl, rfl⟩
      go_wp2_with fail
      go_ret
      exact ⟨rfl, HB6.out⟩
end Go.Proofs.Ytlfenakabedmfaa
