/- The walk of WalkKeeps. -/
import Derived.Test.YtpmldcgljfkpnaaBoth
import Derived.Test.YtpmldcgljfkpnaaSame2
namespace Go.Proofs.Ytpmldcgljfkpnaa
open Go.RowKit Go.Shelf
theorem frameB_get (m : Nat → Int) (f : Nat) {j : Nat} (hj : j < 8) : (frameA m f)[j]? = some (.int .u64 (m (f * 8 + j))) := by
  match j, hj with
  | 0, _ => rfl
  | 1, _ => rfl
  | 2, _ => rfl
  | 3, _ => rfl
  | 4, _ => rfl
  | 5, _ => rfl
  | 6, _ => rfl
  | 7, _ => rfl
set_option maxRecDepth 100000 in
set_option maxHeartbeats 4000000 in
theorem law_WalkKeeps (w : World) (A : Option Addr) (n ca : Nat) (xs : Nat → Int) (r p l : Int) (hA : U64At w A n xs) (hn : n ≤ 9223372036854775807) (_ : (Lit.int .i64 r).wf = true) (_ : (Lit.int .i64 p).wf = true) (_ : (Lit.int .i64 l).wf = true) :
    Calls Try.prog 6 #[.slice A n ca, .int .i64 r, .int .i64 p, .int .i64 l] w fun e w' => e = .returned (.bool true) ∧ Below w.heap.size w w' := by
  have HA := hide hA
  clear hA
  by_cases h1 : 128 < n
  · go_enter Try.func6, Try.ntmps6
    go_wp2_with fail
    refine (awake5 _).mono ?_
    rintro e w1 ⟨rfl, hb⟩
    have HB := hide hb
    clear hb
    go_wp2_with fail
    go_ret
    exact ⟨rfl, HB.out⟩
  have hn1 : n ≤ 128 := by omega
  clear hn
  go_enter Try.func6, Try.ntmps6
  go_wp2_with fail
  refine (both_in 16 A n ca xs _ (by decide) (by decide) HA.out hn1).mono ?_
  rintro e w1 ⟨g, gf, cp, rg, rf, rc, rfl, hM, hR, hB⟩
  have HM := hide hM
  have HR := hide hR
  have HB := hide hB
  clear hM hB hR HA
  generalize bothM 16 xs n = m at *
  go_wp2_with fail
  refine (wat_any g gf 16 cp _ r p l _ HM.out).mono ?_
  rintro e w2 ⟨rfl, hb2⟩
  generalize (atV 16 m r p l).1 = q1
  generalize (atV 16 m r p l).2 = q2
  have HM2 := hide (HM.out.on hb2)
  have HR2 := hide (HR.out.below hb2 HR.out.hd.lt HR.out.ltf)
  have HB2 := hide (HB.out.trans (hb2.mono HB.out.size))
  clear hb2 HM HB HR
  go_wp2_with fail
  refine (wwalk_any g gf 16 cp m r p _ HM2.out).mono ?_
  rintro e w3 ⟨rfl, hb3⟩
  generalize wlkC 16 m r p = q3
  generalize wlkE 16 m r p = q4
  have HM3 := hide (HM2.out.on hb3)
  have HR3 := hide (HR2.out.below hb3 HR2.out.hd.lt HR2.out.ltf)
  have HB3 := hide (HB2.out.trans (hb3.mono HB2.out.size))
  clear hb3 HM2 HB2 HR2
  go_wp2_with fail
  refine (wdep_any g gf 16 cp m r p _ HM3.out).mono ?_
  rintro e w4 ⟨rfl, hb4⟩
  generalize depV 16 m r p = q5
  have HM4 := hide (HM3.out.on hb4)
  have HR4 := hide (HR3.out.below hb4 HR3.out.hd.lt HR3.out.ltf)
  have HB4 := hide (HB3.out.trans (hb4.mono HB3.out.size))
  clear hb4 HM3 HB3 HR3
  go_wp2_with fail
  go_loopw [11, 12, 13, 14, 15] (fun i _ _ _ _ wr => ∃ j : Nat, j ≤ 16 ∧ i = .int .i64 j ∧ MemAt wr g gf 16 cp m ∧ RefAt wr rg rf 16 rc m ∧ Below w.heap.size w wr) (fun i _ _ _ _ _ => 16 - (intOf i).toNat)
  case atStart => exact ⟨0, by omega, rfl, HM4.out, HR4.out, HB4.out⟩
  case round =>
    obtain ⟨f, hf, rfl, hm, hr, hb⟩ := hrel
    have HM6 := hide hm
    have HR6 := hide hr
    have HB6 := hide hb
    clear hm hr hb
    by_cases hlt3 : f < 16
    · go_wp2_with fail
      refine (words_in _ _ _ _ _ _ _ HM6.out hlt3).mono ?_
      rintro e w4 ⟨rfl, hw4⟩
      have bl4 : Blk w4 wr.heap.size 77 (frameA m f) := by rw [hw4]; exact Blk.new _ _ _
      have be4 : Below wr.heap.size wr w4 := by rw [hw4]; exact (Below.refl _ _).alloc (Nat.le_refl _) _
      have HL4 := hide bl4
      have HE4 := hide be4
      clear bl4 be4 hw4
      go_wp2_with fail
      refine (rwords_in _ _ _ _ _ _ _ (HR6.out.below HE4.out HR6.out.hd.lt HR6.out.ltf) hlt3).mono ?_
      rintro e w5 ⟨b5, c5, rfl, hb5, hc5, be5⟩
      have bl4' : Blk w5 wr.heap.size 77 (frameA m f) := HL4.out.below be5 HL4.out.lt
      have HC5 := hide hc5
      have HL4' := hide bl4'
      have HE5 := hide be5
      clear hc5 be5 bl4'
      go_wp2_with fail
      refine (sameWords_yes _ _ 8 _ _ (fun j => m (f * 8 + j)) _ (by decide) (fun j hj => (HL4'.out.cell j).trans (frameB_get m f hj)) HC5.out).mono ?_
      rintro e w6 ⟨rfl, hb6⟩
      have HE6 := hide (HE4.out.trans ((HE5.out.mono HE4.out.size).trans (hb6.mono (Nat.le_trans HE4.out.size HE5.out.size))))
      clear hb6
      go_wp2
      go_roundw
      case rel => exact ⟨f + 1, by omega, by simp, HM6.out.below HE6.out HM6.out.hd.lt HM6.out.ltf, HR6.out.below HE6.out HR6.out.hd.lt HR6.out.ltf, HB6.out.trans (HE6.out.mono HB6.out.size)⟩
      case measure => simp [intOf]; omega
    · go_wp2_with fail
      refine (awake5 _).mono ?_
      rintro e w8 ⟨rfl, hb8⟩
      have HB8 := hide (HB6.out.trans (hb8.mono HB6.out.size))
      clear hb8
      go_wp2
      go_ret
      exact ⟨rfl, HB8.out⟩
end Go.Proofs.Ytpmldcgljfkpnaa
