/- The walk of PhysScript: it returns true. -/
import Derived.Test.YtfjhchcnhmafkaaLaw2b
namespace Go.Proofs.Ytfjhchcnhmafkaa
open Go.RowKit
theorem RefAt.mod {S : Nat → Prop} {w w' : World} {g gf n cp : Nat} {m : Nat → Int} (h : RefAt w g gf n cp m) (hm : Mod S w w') (h1 : ¬ S g) (h2 : ¬ S gf) : RefAt w' g gf n cp m := h.same (hm.block g h.hd.lt h1) (hm.block gf h.ltf h2)
theorem MemAt.drew {w : World} {g gf n cp : Nat} {m : Nat → Int} (h : MemAt w g gf n cp m) : MemAt w.drew g gf n cp m := h.same rfl rfl
theorem RefAt.drew {w : World} {g gf n cp : Nat} {m : Nat → Int} (h : RefAt w g gf n cp m) : RefAt w.drew g gf n cp m := h.same rfl rfl
section
variable {w : World} {g gf n cp rg rf rn rc : Nat} {m rm : Nat → Int}
/-- The two memories lie in blocks of their own. -/
theorem apart4 (h : MemAt w g gf n cp m) (k : RefAt w rg rf rn rc rm) : g ≠ rg ∧ g ≠ rf ∧ gf ≠ rg ∧ gf ≠ rf := by
  obtain ⟨c1, h1, _⟩ := h.row
  obtain ⟨c2, k1, _⟩ := k.row
  exact ⟨h.hd.ne_ k.hd (by decide), h.hd.ne_ k1 (by decide), h1.ne_ k.hd (by decide), h1.ne_ k1 (by decide)⟩
end
set_option maxHeartbeats 2000000 in
theorem alike_any (g gf n cp rg rf rc : Nat) (m : Nat → Int) (w : World) (hm : MemAt w g gf n cp m) (hr : RefAt w rg rf n rc m) :
    Calls Try.prog 46 #[.pointer (some ⟨g, 0, none⟩), .pointer (some ⟨rg, 0, none⟩)] w fun e w' => e = .returned (.bool true) ∧ Below w.heap.size w w' := by
  have hn := hm.le
  have HM := hide hm
  have HR := hide hr
  clear hm hr
  go_enter Try.func46, Try.ntmps46
  go_wp2_with fail
  refine (pframes_any _ _ _ _ _ _ HM.out).mono ?_
  rintro e w' ⟨rfl, rfl⟩
  go_wp2_with fail
  refine (rframes_any _ _ _ _ _ _ HR.out).mono ?_
  rintro e w' ⟨rfl, rfl⟩
  go_wp2_with fail
  go_loopw [5] (fun i wr => ∃ j : Nat, j ≤ n ∧ i = .int .i64 j ∧ MemAt wr g gf n cp m ∧ RefAt wr rg rf n rc m ∧ Below w.heap.size w wr) (fun i _ => n - (intOf i).toNat)
  case atStart => exact ⟨0, Nat.zero_le _, rfl, HM.out, HR.out, Below.refl _ _⟩
  case round =>
    obtain ⟨f, hf, rfl, hm, hr, hb⟩ := hrel
    have HM6 := hide hm
    have HR6 := hide hr
    have HB6 := hide hb
    clear hm hr hb
    by_cases hlt3 : f < n
    · go_wp2_with fail
      refine (rframes_any _ _ _ _ _ _ HR6.out).mono ?_
      rintro e w' ⟨rfl, rfl⟩
      go_wp2_with fail
      refine (words_in _ _ _ _ _ _ _ HM6.out hlt3).mono ?_
      rintro e w4 ⟨rfl, hw4⟩
      have bl4 : Blk w4 wr.heap.size 109 (frameA m f) := by rw [hw4]; exact Blk.new _ _ _
      have be4 : Below wr.heap.size wr w4 := by rw [hw4]; exact (Below.refl _ _).alloc (Nat.le_refl _) _
      have HL4 := hide bl4
      have HE4 := hide be4
      clear bl4 be4 hw4
      go_wp2_with fail
      refine (rwords_in _ _ _ _ _ _ _ (HR6.out.below HE4.out HR6.out.hd.lt HR6.out.ltf) hlt3).mono ?_
      rintro e w5 ⟨b5, c5, rfl, hb5, hc5, be5⟩
      have bl4' : Blk w5 wr.heap.size 109 (frameA m f) := HL4.out.below be5 HL4.out.lt
      have HC5 := hide hc5
      have HL4' := hide bl4'
      have HE5 := hide be5
      clear hc5 be5 bl4'
      go_wp2_with fail
      refine (sameWords_yes _ _ 8 _ _ (fun j => m (f * 8 + j)) _ (by decide) (fun j hj => (HL4'.out.cell j).trans (frameA_get m f hj)) HC5.out).mono ?_
      rintro e w6 ⟨rfl, hb6⟩
      have HE6 := hide (HE4.out.trans ((HE5.out.mono HE4.out.size).trans (hb6.mono (Nat.le_trans HE4.out.size HE5.out.size))))
      clear hb6
      go_wp2
      go_roundw
      case rel => exact ⟨f + 1, by omega, by simp, HM6.out.below HE6.out HM6.out.hd.lt HM6.out.ltf, HR6.out.below HE6.out HR6.out.hd.lt HR6.out.ltf, HB6.out.trans (HE6.out.mono HB6.out.size)⟩
      case measure => simp [intOf]; omega
    · go_wp2_with fail
      refine (rframes_any _ _ _ _ _ _ HR6.out).mono ?_
      rintro e w' ⟨rfl, rfl⟩
      go_wp2_with fail
      go_ret
      exact ⟨rfl, HB6.out⟩
set_option maxRecDepth 100000 in
set_option maxHeartbeats 4000000 in
theorem law_PhysScript (w : World) (fr : Int) (A : Option Addr) (n ca : Nat) (xs : Nat → ActC) (_ : (Lit.int .i64 fr).wf = true) (hA : ActsAt w A n xs) (hn : n ≤ 9223372036854775807) :
    Calls Try.prog 11 #[.int .i64 fr, .slice A n ca] w fun e w' => e = .returned (.bool true) ∧ Below w.heap.size w w' := by
  have HA := hide hA
  clear hA
  by_cases h1 : 100 < n
  · go_enter Try.func11, Try.ntmps11
    go_wp2_with fail
    refine (awake2 _).mono ?_
    rintro e w1 ⟨rfl, hb⟩
    have HB := hide hb
    clear hb
    go_wp2_with fail
    go_ret
    exact ⟨rfl, HB.out⟩
  have hn1 : n ≤ 100 := by omega
  by_cases hfr : fr < 1 ∨ 64 < fr
  · have HFR := hide hfr
    clear hfr
    go_enter Try.func11, Try.ntmps11
    go_wp2_with fail
    refine (new_bad _ _ HFR.out).mono ?_
    rintro e w' ⟨rfl, rfl⟩
    go_wp2_with fail
    refine (rnew_bad _ _ HFR.out).mono ?_
    rintro e w' ⟨rfl, rfl⟩
    go_wp2_with fail
    refine (num_any _ _).mono ?_
    rintro e w' ⟨rfl, rfl⟩
    go_wp2_with fail
    refine (awake2 _).mono ?_
    rintro e w1 ⟨rfl, hb⟩
    have HB := hide hb
    clear hb
    go_wp2_with fail
    go_ret
    exact ⟨rfl, HB.out⟩
  obtain ⟨N, rfl⟩ := Int.eq_ofNat_of_zero_le (by omega : 0 ≤ fr)
  have hN1 : 1 ≤ N := by omega
  have hN2 : N ≤ 64 := by omega
  clear hfr
  go_enter Try.func11, Try.ntmps11
  go_wp2_with fail
  refine (new_in N _ hN1 hN2).mono ?_
  rintro e w1 ⟨rfl, hM, hb⟩
  have HM := hide hM
  have HB := hide hb
  clear hM hb
  go_wp2_with fail
  refine (rnew_in N _ hN1 hN2).mono ?_
  rintro e w2 ⟨rfl, hR, hb⟩
  obtain ⟨rf, hrf⟩ : ∃ rf, w1.heap.size = rf := ⟨_, rfl⟩
  have hsz := HB.out.size
  rw [hrf] at hR hb hsz
  have HR := hide hR
  have HM2 := hide (HM.out.below hb (by rw [← hrf]; exact HM.out.hd.lt) (by rw [← hrf]; exact HM.out.ltf))
  have HB2 := hide (HB.out.trans (hb.mono hsz))
  rw [hrf]
  clear hR hb hrf
  go_wp2_with fail
  refine (num_any _ _).mono ?_
  rintro e w' ⟨rfl, rfl⟩
  go_wp2_with fail
  go_loopw [5, 9] (fun p i wr => ∃ (j g gf cp : Nat) (m : Nat → Int), j ≤ n ∧ p = .pointer (some ⟨g, 0, none⟩) ∧ i = .int .i64 j ∧ MemAt wr g gf N cp m ∧ RefAt wr (rf + 1) rf N (8 * N) m ∧ w.heap.size ≤ g ∧ w.heap.size ≤ gf ∧ Below w.heap.size w wr) (fun _ i _ => n - (intOf i).toNat)
  case atStart => exact ⟨0, _, _, _, _, Nat.zero_le _, rfl, rfl, HM2.out, HR.out, by omega, Nat.le_refl _, HB2.out⟩
  case round =>
    obtain ⟨j, g, gf, cp, m, hj, rfl, rfl, hm, hr, hg1, hg2, hb⟩ := hrel
    have HM3 := hide hm
    have HR3 := hide hr
    have HB3 := hide hb
    have hap := apart4 hm hr
    have HAP := hide hap
    clear hm hr hb hap
    by_cases hlt : j < n
    · obtain ⟨b, off, rfl, hbl, hc⟩ := HA.out.resolve_left (by omega)
      obtain ⟨⟨c0, c1, c2, c3, c4⟩, ha, hv⟩ := hc j hlt
      rw [← cell_below HB3.out hbl] at c0 c1 c2 c3 c4
      clear hc
      obtain ⟨x, hx⟩ : ∃ x, xs j = x := ⟨_, rfl⟩
      rw [hx] at c0 c1 c2 c3 c4 ha hv
      clear hx
      obtain ⟨d, a, v, f, k⟩ := x
      simp only at c0 c1 c2 c3 c4 ha hv
      have HAD := hide ha
      have HVD := hide hv
      have ij1 : (0 : Int) ≤ (j : Int) := by omega
      have ij2 : (j : Int) < (n : Int) := by omega
      clear ha hv
      by_cases hd0 : d = 0
      · subst hd0
        go_wp2_with fail
        generalize hW1 : wr.alloc (.cells #[.int .i64 0, .int .u64 a, .int .u64 v, .int .i64 f, .int .i64 k] 42) = W1
        have hx : Blk W1 wr.heap.size 42 #[.int .i64 0, .int .u64 a, .int .u64 v, .int .i64 f, .int .i64 k] := by rw [← hW1]; exact Blk.new _ _ _
        have hbw : Below wr.heap.size wr W1 := by rw [← hW1]; exact (Below.refl _ _).alloc (Nat.le_refl _) _
        have HX := hide hx
        have HM4 := hide (HM3.out.below hbw HM3.out.hd.lt HM3.out.ltf)
        have HR4 := hide (HR3.out.below hbw HR3.out.hd.lt HR3.out.ltf)
        have HB4 := hide (HB3.out.trans (hbw.mono HB3.out.size))
        have lg := HM3.out.hd.lt
        have lf := HM3.out.ltf
        have lr := HR3.out.hd.lt
        have ls := HR3.out.ltf
        have x0 := hx.cell 0
        have x1 := hx.cell 1
        have x2 := hx.cell 2
        have x3 := hx.cell 3
        have x4 := hx.cell 4
        clear hx hbw hW1
        refine (load_any _ _ _ _ _ _ _ HM4.out HAD.out.1).mono ?_
        rintro e w' ⟨rfl, rfl⟩
        go_wp2_with fail
        refine (rload_any _ _ _ _ _ _ _ HR4.out HAD.out.1 HAD.out.2).mono ?_
        rintro e w' ⟨rfl, rfl⟩
        go_wp2_with fail
        refine (num_any _ _).mono ?_
        rintro e w' ⟨rfl, rfl⟩
        go_wp2_with fail
        go_roundw
        case rel => exact ⟨j + 1, g, gf, cp, m, by omega, rfl, by simp, HM4.out, HR4.out, hg1, hg2, HB4.out⟩
        case measure => simp [intOf]; omega
      by_cases hd1 : d = 1
      · subst hd1
        clear hd0
        go_wp2_with fail
        generalize hW1 : wr.alloc (.cells #[.int .i64 1, .int .u64 a, .int .u64 v, .int .i64 f, .int .i64 k] 42) = W1
        have hx : Blk W1 wr.heap.size 42 #[.int .i64 1, .int .u64 a, .int .u64 v, .int .i64 f, .int .i64 k] := by rw [← hW1]; exact Blk.new _ _ _
        have hbw : Below wr.heap.size wr W1 := by rw [← hW1]; exact (Below.refl _ _).alloc (Nat.le_refl _) _
        have HX := hide hx
        have HM4 := hide (HM3.out.below hbw HM3.out.hd.lt HM3.out.ltf)
        have HR4 := hide (HR3.out.below hbw HR3.out.hd.lt HR3.out.ltf)
        have HB4 := hide (HB3.out.trans (hbw.mono HB3.out.size))
        have lg := HM3.out.hd.lt
        have lf := HM3.out.ltf
        have lr := HR3.out.hd.lt
        have ls := HR3.out.ltf
        have x0 := hx.cell 0
        have x1 := hx.cell 1
        have x2 := hx.cell 2
        have x3 := hx.cell 3
        have x4 := hx.cell 4
        clear hx hbw hW1
        go_region_held3 (fun w' => w'.cell? ⟨wr.heap.size, 1, none⟩ = some (.int .u64 a) ∧ w'.cell? ⟨wr.heap.size, 2, none⟩ = some (.int .u64 v)) (first | (exact ⟨x1, x2⟩) | (exact ⟨hq1, hq2⟩)) ((first
          | (go_at_call 21; refine (pstore_any _ _ _ _ _ _ _ _ HM4.out.drew HAD.out.1 HVD.out).mono ?_; rintro e w2 ⟨rfl, hM5, hm5⟩; have hq1 := (hm5.cell (show ¬ wr.heap.size = gf by omega) (o := 1) HX.out.lt).trans x1; have hq2 := (hm5.cell (show ¬ wr.heap.size = gf by omega) (o := 2) HX.out.lt).trans x2)
          | (go_at_call 31; refine (num_any _ _).mono ?_; rintro e w' ⟨rfl, rfl⟩)
          | (go_at_call 42; refine (rstore_any _ _ _ _ _ _ _ _ (HR4.out.mod hm5.of_drew (fun e => HAP.out.2.2.1 e.symm) (fun e => HAP.out.2.2.2 e.symm)) HAD.out.1 HAD.out.2 HVD.out).mono ?_; rintro e w3 ⟨rfl, hR5, hm6⟩; have hq1 := (hm6.cell (show ¬ wr.heap.size = rf by omega) (o := 1) (Nat.lt_of_lt_of_le HX.out.lt hm5.size)).trans hq1; have hq2 := (hm6.cell (show ¬ wr.heap.size = rf by omega) (o := 2) (Nat.lt_of_lt_of_le HX.out.lt hm5.size)).trans hq2)))
        have HBZ := hide (below_mod (below_mod HB4.out (Nat.le_refl _) (S := (· = gf)) hm5.of_drew (fun k e => by omega)) (Nat.le_refl _) (S := (· = rf)) hm6 (fun k e => by omega))
        have HMZ := hide (hM5.mod hm6 HAP.out.2.1 HAP.out.2.2.2)
        clear hm5 hm6 hM5
        go_wp2
        go_roundw
        case rel => exact ⟨j + 1, _, _, _, _, by omega, rfl, by simp, HMZ.out, hR5, hg1, hg2, HBZ.out⟩
        case measure => simp [intOf]; omega
      by_cases hd2 : d = 2
      · subst hd2
        clear hd0 hd1
        go_wp2_with fail
        generalize hW1 : wr.alloc (.cells #[.int .i64 2, .int .u64 a, .int .u64 v, .int .i64 f, .int .i64 k] 42) = W1
        have hx : Blk W1 wr.heap.size 42 #[.int .i64 2, .int .u64 a, .int .u64 v, .int .i64 f, .int .i64 k] := by rw [← hW1]; exact Blk.new _ _ _
        have hbw : Below wr.heap.size wr W1 := by rw [← hW1]; exact (Below.refl _ _).alloc (Nat.le_refl _) _
        have HX := hide hx
        have HM4 := hide (HM3.out.below hbw HM3.out.hd.lt HM3.out.ltf)
        have HR4 := hide (HR3.out.below hbw HR3.out.hd.lt HR3.out.ltf)
        have HB4 := hide (HB3.out.trans (hbw.mono HB3.out.size))
        have lg := HM3.out.hd.lt
        have lf := HM3.out.ltf
        have lr := HR3.out.hd.lt
        have ls := HR3.out.ltf
        have x0 := hx.cell 0
        have x1 := hx.cell 1
        have x2 := hx.cell 2
        have x3 := hx.cell 3
        have x4 := hx.cell 4
        clear hx hbw hW1
        go_region_held3 (fun w' => w'.cell? ⟨wr.heap.size, 3, none⟩ = some (.int .i64 f) ∧ w'.cell? ⟨wr.heap.size, 4, none⟩ = some (.int .i64 k)) (first | (exact ⟨x3, x4⟩) | (exact ⟨hq1, hq2⟩)) ((first
          | (go_at_call 25; refine (zero_any _ _ _ _ _ _ _ _ HM4.out.drew).mono ?_; rintro e w2 ⟨rfl, hM5, hm5⟩; have hq1 := (hm5.cell (show ¬ wr.heap.size = gf by omega) (o := 3) HX.out.lt).trans x3; have hq2 := (hm5.cell (show ¬ wr.heap.size = gf by omega) (o := 4) HX.out.lt).trans x4)
          | (go_at_call 31; refine (num_any _ _).mono ?_; rintro e w' ⟨rfl, rfl⟩)
          | (go_at_call 43; refine (rzero_any _ _ _ _ _ _ _ _ (HR4.out.mod hm5.of_drew (fun e => HAP.out.2.2.1 e.symm) (fun e => HAP.out.2.2.2 e.symm))).mono ?_; rintro e w3 ⟨rfl, hR5, hm6⟩; have hq1 := (hm6.cell (show ¬ wr.heap.size = rf by omega) (o := 3) (Nat.lt_of_lt_of_le HX.out.lt hm5.size)).trans hq1; have hq2 := (hm6.cell (show ¬ wr.heap.size = rf by omega) (o := 4) (Nat.lt_of_lt_of_le HX.out.lt hm5.size)).trans hq2)))
        have HBZ := hide (below_mod (below_mod HB4.out (Nat.le_refl _) (S := (· = gf)) hm5.of_drew (fun k e => by omega)) (Nat.le_refl _) (S := (· = rf)) hm6 (fun k e => by omega))
        have HMZ := hide (hM5.mod hm6 HAP.out.2.1 HAP.out.2.2.2)
        clear hm5 hm6 hM5
        go_wp2
        go_roundw
        case rel => exact ⟨j + 1, _, _, _, _, by omega, rfl, by simp, HMZ.out, hR5, hg1, hg2, HBZ.out⟩
        case measure => simp [intOf]; omega
      by_cases hd3 : d = 3
      · subst hd3
        clear hd0 hd1 hd2
        by_cases hf : 0 ≤ f ∧ f < (N : Int)
        · obtain ⟨fn, rfl⟩ := Int.eq_ofNat_of_zero_le hf.1
          have hfn : fn < N := by omega
          clear hf
          go_wp2_with fail
          generalize hW1 : wr.alloc (.cells #[.int .i64 3, .int .u64 a, .int .u64 v, .int .i64 fn, .int .i64 k] 42) = W1
          have hx : Blk W1 wr.heap.size 42 #[.int .i64 3, .int .u64 a, .int .u64 v, .int .i64 fn, .int .i64 k] := by rw [← hW1]; exact Blk.new _ _ _
          have hbw : Below wr.heap.size wr W1 := by rw [← hW1]; exact (Below.refl _ _).alloc (Nat.le_refl _) _
          have HX := hide hx
          have HM4 := hide (HM3.out.below hbw HM3.out.hd.lt HM3.out.ltf)
          have HR4 := hide (HR3.out.below hbw HR3.out.hd.lt HR3.out.ltf)
          have HB4 := hide (HB3.out.trans (hbw.mono HB3.out.size))
          have lg := HM3.out.hd.lt
          have lf := HM3.out.ltf
          have lr := HR3.out.hd.lt
          have ls := HR3.out.ltf
          have x0 := hx.cell 0
          have x1 := hx.cell 1
          have x2 := hx.cell 2
          have x3 := hx.cell 3
          have x4 := hx.cell 4
          clear hx hbw hW1
          refine (words_in _ _ _ _ _ _ _ HM4.out hfn).mono ?_
          rintro e w4 ⟨rfl, hw4⟩
          have bl4 : Blk w4 W1.heap.size 109 (frameA m fn) := by rw [hw4]; exact Blk.new _ _ _
          have be4 : Below W1.heap.size W1 w4 := by rw [hw4]; exact (Below.refl _ _).alloc (Nat.le_refl _) _
          have xx := (HX.out.below be4 HX.out.lt).cell 3
          have HL4 := hide bl4
          have HE4 := hide be4
          clear bl4 be4 hw4
          have hWz := HX.out.lt
          go_wp2_with fail
          refine (rwords_in _ _ _ _ _ _ _ (HR4.out.below HE4.out HR4.out.hd.lt HR4.out.ltf) hfn).mono ?_
          rintro e w5 ⟨b5, c5, rfl, hb5, hc5, be5⟩
          have bl4' : Blk w5 W1.heap.size 109 (frameA m fn) := HL4.out.below be5 HL4.out.lt
          have HC5 := hide hc5
          have HL4' := hide bl4'
          have HE5 := hide be5
          clear hc5 be5 bl4'
          go_wp2_with fail
          refine (sameWords_yes _ _ 8 _ _ (fun j => m (fn * 8 + j)) _ (by decide) (fun j hj => (HL4'.out.cell j).trans (frameA_get m fn hj)) HC5.out).mono ?_
          rintro e w6 ⟨rfl, hb6⟩
          have HL6 := hide (HL4'.out.below hb6 HL4'.out.lt)
          have HE6 := hide (HE4.out.trans ((HE5.out.mono HE4.out.size).trans (hb6.mono (Nat.le_trans HE4.out.size HE5.out.size))))
          clear hb6
          go_wp2_with fail
          refine (num_any _ _).mono ?_
          rintro e w' ⟨rfl, rfl⟩
          go_wp2_with fail
          refine (overWords_any _ 8 8 _ _ _ HL6.out (Nat.le_refl _) (Nat.le_refl _) (by decide) (frameA_one m fn)).mono ?_
          rintro e w7 ⟨⟨v7, rfl⟩, hm7⟩
          have HM7 := hide (((HM4.out.below HE6.out HM4.out.hd.lt HM4.out.ltf)).mod hm7 (by have := HM4.out.hd.lt; omega) (by have := HM4.out.ltf; omega))
          have HR7 := hide (((HR4.out.below HE6.out HR4.out.hd.lt HR4.out.ltf)).mod hm7 (by have := HR4.out.hd.lt; omega) (by have := HR4.out.ltf; omega))
          have hs4 := HB4.out.size
          have HB7 := hide (below_mod (HB4.out.trans (HE6.out.mono HB4.out.size)) (Nat.le_refl _) (S := (· = W1.heap.size)) hm7 (fun k e => by omega))
          clear hm7
          go_wp2
          go_roundw
          case rel => exact ⟨j + 1, _, _, _, _, by omega, rfl, by simp, HM7.out, HR7.out, hg1, hg2, HB7.out⟩
          case measure => simp [intOf]; omega
        · have hbad : f < 0 ∨ (N : Int) ≤ f := by omega
          have HBAD := hide hbad
          clear hf hbad
          go_wp2_with fail
          generalize hW1 : wr.alloc (.cells #[.int .i64 3, .int .u64 a, .int .u64 v, .int .i64 f, .int .i64 k] 42) = W1
          have hx : Blk W1 wr.heap.size 42 #[.int .i64 3, .int .u64 a, .int .u64 v, .int .i64 f, .int .i64 k] := by rw [← hW1]; exact Blk.new _ _ _
          have hbw : Below wr.heap.size wr W1 := by rw [← hW1]; exact (Below.refl _ _).alloc (Nat.le_refl _) _
          have HX := hide hx
          have HM4 := hide (HM3.out.below hbw HM3.out.hd.lt HM3.out.ltf)
          have HR4 := hide (HR3.out.below hbw HR3.out.hd.lt HR3.out.ltf)
          have HB4 := hide (HB3.out.trans (hbw.mono HB3.out.size))
          have lg := HM3.out.hd.lt
          have lf := HM3.out.ltf
          have lr := HR3.out.hd.lt
          have ls := HR3.out.ltf
          have x0 := hx.cell 0
          have x1 := hx.cell 1
          have x2 := hx.cell 2
          have x3 := hx.cell 3
          have x4 := hx.cell 4
          clear hx hbw hW1
          refine (words_bad _ _ _ _ _ _ _ HM4.out HBAD.out).mono ?_
          rintro e w' ⟨rfl, rfl⟩
          go_wp2_with fail
          refine (rwords_bad _ _ _ _ _ _ _ HR4.out HBAD.out).mono ?_
          rintro e w' ⟨rfl, rfl⟩
          go_wp2_with fail
          refine (sameWords_nil _).mono ?_
          rintro e w6 ⟨rfl, hb6⟩
          have HE6 := hide hb6
          clear hb6
          go_wp2_with fail
          refine (num_any _ _).mono ?_
          rintro e w' ⟨rfl, rfl⟩
          go_wp2_with fail
          refine (overWords_nil _).mono ?_
          rintro e w7 ⟨⟨v7, rfl⟩, hb7⟩
          have HE7 := hide (HE6.out.trans (hb7.mono HE6.out.size))
          clear hb7
          go_wp2
          go_roundw
          case rel => exact ⟨j + 1, _, _, _, _, by omega, rfl, by simp, HM4.out.below HE7.out HM4.out.hd.lt HM4.out.ltf, HR4.out.below HE7.out HR4.out.hd.lt HR4.out.ltf, hg1, hg2, HB4.out.trans (HE7.out.mono HB4.out.size)⟩
          case measure => simp [intOf]; omega
      by_cases hd4 : d = 4
      · subst hd4
        clear hd0 hd1 hd2 hd3
        go_wp2_with fail
        generalize hW1 : wr.alloc (.cells #[.int .i64 4, .int .u64 a, .int .u64 v, .int .i64 f, .int .i64 k] 42) = W1
        have hx : Blk W1 wr.heap.size 42 #[.int .i64 4, .int .u64 a, .int .u64 v, .int .i64 f, .int .i64 k] := by rw [← hW1]; exact Blk.new _ _ _
        have hbw : Below wr.heap.size wr W1 := by rw [← hW1]; exact (Below.refl _ _).alloc (Nat.le_refl _) _
        have HX := hide hx
        have HM4 := hide (HM3.out.below hbw HM3.out.hd.lt HM3.out.ltf)
        have HR4 := hide (HR3.out.below hbw HR3.out.hd.lt HR3.out.ltf)
        have HB4 := hide (HB3.out.trans (hbw.mono HB3.out.size))
        have lg := HM3.out.hd.lt
        have lf := HM3.out.ltf
        have lr := HR3.out.hd.lt
        have ls := HR3.out.ltf
        have x0 := hx.cell 0
        have x1 := hx.cell 1
        have x2 := hx.cell 2
        have x3 := hx.cell 3
        have x4 := hx.cell 4
        clear hx hbw hW1
        refine (copy_in _ _ _ _ _ _ HM4.out).mono ?_
        rintro e w2 ⟨gc, fc, cc, rfl, hc, hgc, hfc, hb2⟩
        have HC := hide hc
        have HE := hide hb2
        have hs4 := HB4.out.size
        clear hc hb2
        go_wp2
        go_roundw
        case rel => exact ⟨j + 1, _, _, _, _, by omega, rfl, by simp, HC.out, HR4.out.below HE.out HR4.out.hd.lt HR4.out.ltf, by omega, by omega, HB4.out.trans (HE.out.mono HB4.out.size)⟩
        case measure => simp [intOf]; omega
      have e0 : (d == 0) = false := by rw [beq_eq_false_iff_ne]; exact hd0
      have e1 : (d == 1) = false := by rw [beq_eq_false_iff_ne]; exact hd1
      have e2 : (d == 2) = false := by rw [beq_eq_false_iff_ne]; exact hd2
      have e3 : (d == 3) = false := by rw [beq_eq_false_iff_ne]; exact hd3
      have e4 : (d == 4) = false := by rw [beq_eq_false_iff_ne]; exact hd4
      clear hd0 hd1 hd2 hd3 hd4
      go_wp2_with fail
      generalize hW1 : wr.alloc (.cells #[.int .i64 d, .int .u64 a, .int .u64 v, .int .i64 f, .int .i64 k] 42) = W1
      have hx : Blk W1 wr.heap.size 42 #[.int .i64 d, .int .u64 a, .int .u64 v, .int .i64 f, .int .i64 k] := by rw [← hW1]; exact Blk.new _ _ _
      have hbw : Below wr.heap.size wr W1 := by rw [← hW1]; exact (Below.refl _ _).alloc (Nat.le_refl _) _
      have HX := hide hx
      have HM4 := hide (HM3.out.below hbw HM3.out.hd.lt HM3.out.ltf)
      have HR4 := hide (HR3.out.below hbw HR3.out.hd.lt HR3.out.ltf)
      have HB4 := hide (HB3.out.trans (hbw.mono HB3.out.size))
      have lg := HM3.out.hd.lt
      have lf := HM3.out.ltf
      have lr := HR3.out.hd.lt
      have ls := HR3.out.ltf
      have x0 := hx.cell 0
      have x1 := hx.cell 1
      have x2 := hx.cell 2
      have x3 := hx.cell 3
      have x4 := hx.cell 4
      clear hx hbw hW1
      go_roundw
      case rel => exact ⟨j + 1, _, _, _, _, by omega, rfl, by simp, HM4.out, HR4.out, hg1, hg2, HB4.out⟩
      case measure => simp [intOf]; omega
    · go_wp2_with fail
      refine (alike_any _ _ _ _ _ _ _ _ _ HM3.out HR3.out).mono ?_
      rintro e w4 ⟨rfl, hb4⟩
      have HE4 := hide (HB3.out.trans (hb4.mono HB3.out.size))
      clear hb4
      go_wp2_with fail
      refine (awake2 _).mono ?_
      rintro e w5 ⟨rfl, hb5⟩
      have HE5 := hide (HE4.out.trans (hb5.mono HE4.out.size))
      clear hb5
      go_wp2_with fail
      go_ret
      exact ⟨rfl, HE5.out⟩
end Go.Proofs.Ytfjhchcnhmafkaa
