/- The walks of package walk: entry, bad, levels. -/
import Derived.Test.YtjnnimdgmcpjoaaPhys
import Derived.Test.YtjnnimdgmcpjoaaPte2
import Derived.Test.YtjnnimdgmcpjoaaVaddr
import Derived.Test.YtjnnimdgmcpjoaaIter
import Derived.Test.YtjnnimdgmcpjoaaRef2
import Derived.Deep.QuietTactic
import Derived.BigQuiet
import Derived.Deep.CutBlock
import Derived.Deep.DeepCutAuto
namespace Go.Proofs.Ytjnnimdgmcpjoaa
open Go.RowKit Go.Shelf

/-- What is wrong with a table's word. -/
def entE (n : Nat) (x : Int) (lf : Bool) : Int := if decOk x = false then 5 else if bitB x 0 = false then 6 else if bitB x 1 ≠ lf ∨ (n : Int) ≤ x / 256 % 64 then 5 else 0
def entC (n : Nat) (x : Int) (lf : Bool) : Array Value := if entE n x lf = 0 then #[.bool (bitB x 0), .bool (bitB x 1), .bool (bitB x 2), .bool (bitB x 3), .int .i64 (x / 256 % 64)] else #[.bool false, .bool false, .bool false, .bool false, .int .i64 0]
theorem Blk.f5 {w : World} {g : Nat} {t : TypeId} {cs : Array Value} (h : Blk w g t cs) : w.frozen? ⟨g, 0, none⟩ = false ∧ w.frozen? ⟨g, 1, none⟩ = false ∧ w.frozen? ⟨g, 2, none⟩ = false ∧ w.frozen? ⟨g, 3, none⟩ = false ∧ w.frozen? ⟨g, 4, none⟩ = false := ⟨h.frozen 0, h.frozen 1, h.frozen 2, h.frozen 3, h.frozen 4⟩
theorem Blk.set5 {w : World} {g : Nat} {t : TypeId} {c0 c1 c2 c3 c4 : Value} (h : Blk w g t #[c0, c1, c2, c3, c4]) (v0 v1 v2 v3 v4 : Value) : Blk (((((w.setCell ⟨g, 0, none⟩ v0).setCell ⟨g, 1, none⟩ v1).setCell ⟨g, 2, none⟩ v2).setCell ⟨g, 3, none⟩ v3).setCell ⟨g, 4, none⟩ v4) g t #[v0, v1, v2, v3, v4] := by
  have h' := ((((h.set_ 0 v0).set_ 1 v1).set_ 2 v2).set_ 3 v3).set_ 4 v4
  simpa only [List.setIfInBounds_toArray, List.set_cons_zero, List.set_cons_succ] using h'
theorem below_set5 {B : Nat} {a w : World} (hb : Below B a w) {g : Nat} (hg : B ≤ g) (v0 v1 v2 v3 v4 : Value) : Below B a (((((w.setCell ⟨g, 0, none⟩ v0).setCell ⟨g, 1, none⟩ v1).setCell ⟨g, 2, none⟩ v2).setCell ⟨g, 3, none⟩ v3).setCell ⟨g, 4, none⟩ v4) := ((((hb.setCell (p := ⟨g, 0, none⟩) hg v0).setCell (p := ⟨g, 1, none⟩) hg v1).setCell (p := ⟨g, 2, none⟩) hg v2).setCell (p := ⟨g, 3, none⟩) hg v3).setCell (p := ⟨g, 4, none⟩) hg v4
theorem blk_below {W w2 : World} {g : Nat} {t : TypeId} {cs : Array Value} (h : Blk W g t cs) (hb : Below W.heap.size W w2) : Blk w2 g t cs := h.below hb h.lt
theorem MemAt.on {w w' : World} {g gf n cp : Nat} {m : Nat → Int} (h : MemAt w g gf n cp m) (hb : Below w.heap.size w w') : MemAt w' g gf n cp m := h.below hb h.hd.lt h.ltf

set_option maxRecDepth 100000 in
set_option maxHeartbeats 2000000 in
theorem entry_any (g gf n cp : Nat) (m : Nat → Int) (j : Nat) (lf : Bool) (w : World) (hM : MemAt w g gf n cp m) (hj : j < 8 * n) :
    Calls Try.prog 54 #[.pointer (some ⟨g, 0, none⟩), .int .u64 (8 * (j : Int)), .bool lf] w fun e w' => e = .returned (.tuple #[.agg (entC n (m j) lf), .int .i64 (entE n (m j) lf)]) ∧ Below w.heap.size w w' := by
  obtain ⟨C, hC⟩ : ∃ C, entC n (m j) lf = C := ⟨_, rfl⟩
  obtain ⟨E, hE⟩ : ∃ E, entE n (m j) lf = E := ⟨_, rfl⟩
  rw [hC, hE]
  have HC := hide hC
  have HE := hide hE
  have hx := hM.word j
  have hn := hM.le
  have hM0 := hM.on (((Below.refl _ w).alloc (Nat.le_refl _) (.cells #[.bool false, .bool false, .bool false, .bool false, .int .i64 0] 50)))
  clear hC hE hM
  go_enter Try.func54, Try.ntmps54
  go_upto_region 1 with fail
  have hk := Blk.new w 50 #[.bool false, .bool false, .bool false, .bool false, .int .i64 0]
  have hB : Below w.heap.size w (w.alloc (.cells #[.bool false, .bool false, .bool false, .bool false, .int .i64 0] 50)) := (Below.refl _ w).alloc (Nat.le_refl _) _
  generalize w.alloc (.cells #[.bool false, .bool false, .bool false, .bool false, .int .i64 0] 50) = W at *
  generalize hH : w.heap.size = H at *
  have HH := hide hH
  clear hH
  have HM := hide hM0
  clear hM0
  go_wp2_with fail
  refine (load_in g gf n cp m j _ HM.out hj).mono ?_
  rintro e w1 ⟨rfl, rfl⟩
  generalize m j = x at *
  go_wp2_with fail
  refine (dec_any x hx.1 hx.2 _).mono ?_
  rintro e w2 ⟨rfl, hb2⟩
  have hM2 := HM.out.on hb2
  replace hB := hB.trans (hb2.mono (Nat.le_of_lt hk.lt))
  replace hk := blk_below hk hb2
  have hlt := hk.lt
  clear hb2 HM hx
  cases hok : decOk x with
  | false =>
    have hE2 : Hid (E = 5 ∧ C = #[.bool false, .bool false, .bool false, .bool false, .int .i64 0]) := hide (by
      have e5 : entE n x lf = 5 := by unfold entE; rw [if_pos hok]
      refine ⟨by rw [← HE.out, e5], by rw [← HC.out]; unfold entC; rw [e5]; rfl⟩)
    rw [show decA x = .agg #[.bool false, .bool false, .bool false, .bool false, .int .i64 0] by unfold decA; rw [hok]; rfl, show decE x = 5 by unfold decE; rw [hok]; rfl]
    replace hk := hk.alloc (.cells #[.bool false, .bool false, .bool false, .bool false, .int .i64 0] 50)
    replace hB := hB.alloc (show H ≤ w2.heap.size by omega) (.cells #[.bool false, .bool false, .bool false, .bool false, .int .i64 0] 50)
    clear hok HC HE hM2
    go_upto_region 5 with fail
    generalize w2.alloc (.cells #[.bool false, .bool false, .bool false, .bool false, .int .i64 0] 50) = W3 at *
    obtain ⟨e0, e1, e2, e3, e4⟩ := hk.c5
    obtain ⟨f0, f1, f2, f3, f4⟩ := hk.f5
    have hl3 := hk.lt
    clear hlt
    go_wp2
    refine bodyPost_ret (results_cell_tmp rfl _ _ H 50 _ (0, 0) _ rfl (hk.set5 _ _ _ _ _) Try.underlying50 rfl (by kernel_rfl)) rfl ⟨by rw [hE2.out.1, hE2.out.2]; rfl, ?_⟩
    rw [HH.out]
    exact below_set5 hB (Nat.le_refl _) _ _ _ _ _
  | true =>
    rw [show decA x = .agg #[.bool (bitB x 0), .bool (bitB x 1), .bool (bitB x 2), .bool (bitB x 3), .int .i64 (x / 256 % 64)] by unfold decA; rw [if_pos hok], show decE x = 0 by unfold decE; rw [if_pos hok]]
    replace hk := hk.alloc (.cells #[.bool (bitB x 0), .bool (bitB x 1), .bool (bitB x 2), .bool (bitB x 3), .int .i64 (x / 256 % 64)] 50)
    replace hB := hB.alloc (show H ≤ w2.heap.size by omega) (.cells #[.bool (bitB x 0), .bool (bitB x 1), .bool (bitB x 2), .bool (bitB x 3), .int .i64 (x / 256 % 64)] 50)
    have hkx := Blk.new w2 50 #[.bool (bitB x 0), .bool (bitB x 1), .bool (bitB x 2), .bool (bitB x 3), .int .i64 (x / 256 % 64)]
    have hM3 := hM2.on ((Below.refl _ w2).alloc (Nat.le_refl _) (.cells #[.bool (bitB x 0), .bool (bitB x 1), .bool (bitB x 2), .bool (bitB x 3), .int .i64 (x / 256 % 64)] 50))
    have hE1 : entE n x lf = if bitB x 0 = false then 6 else if bitB x 1 ≠ lf ∨ (n : Int) ≤ x / 256 % 64 then 5 else 0 := by unfold entE; rw [if_neg (by rw [hok]; simp)]
    have HE1 := hide hE1
    clear hok hM2 hE1
    go_upto_region 5 with fail
    generalize w2.alloc (.cells #[.bool (bitB x 0), .bool (bitB x 1), .bool (bitB x 2), .bool (bitB x 3), .int .i64 (x / 256 % 64)] 50) = W3 at *
    generalize w2.heap.size = G at *
    obtain ⟨e0, e1, e2, e3, e4⟩ := hk.c5
    obtain ⟨f0, f1, f2, f3, f4⟩ := hk.f5
    have hl3 := hk.lt
    have hlx := hkx.lt
    have hne : H ≠ G := by omega
    have HM3 := hide hM3
    clear hlt hM3
    cases hb0 : bitB x 0 with
    | false =>
      have hE2 : Hid (E = 6 ∧ C = #[.bool false, .bool false, .bool false, .bool false, .int .i64 0]) := hide (by
        have e5 : entE n x lf = 6 := by rw [HE1.out, if_pos hb0]
        refine ⟨by rw [← HE.out, e5], by rw [← HC.out]; unfold entC; rw [e5]; rfl⟩)
      rw [hb0] at hkx
      obtain ⟨d0, d1, d2, d3, d4⟩ := hkx.c5
      clear HC HE HE1
      go_wp2
      refine bodyPost_ret (results_cell_tmp rfl _ _ H 50 _ (0, 0) _ rfl (hk.set5 _ _ _ _ _) Try.underlying50 rfl (by kernel_rfl)) rfl ⟨by rw [hE2.out.1, hE2.out.2]; rfl, ?_⟩
      rw [HH.out]
      exact below_set5 hB (Nat.le_refl _) _ _ _ _ _
    | true =>
      have hE3 : entE n x lf = if bitB x 1 ≠ lf ∨ (n : Int) ≤ x / 256 % 64 then 5 else 0 := by rw [HE1.out, if_neg (by rw [hb0]; simp)]
      have HE3 := hide hE3
      clear HE1 hE3
      by_cases hl : bitB x 1 = lf
      · have hl' : (bitB x 1 != lf) = false := by simpa using hl
        have hl'' : (bitB x 1 == lf) = true := by simpa using hl
        generalize hf : x / 256 % 64 = f at *
        have HF := hide hf
        by_cases hn1 : (n : Int) ≤ f
        · have hE2 : Hid (E = 5 ∧ C = #[.bool false, .bool false, .bool false, .bool false, .int .i64 0]) := hide (by
            have e5 : entE n x lf = 5 := by rw [HE3.out, if_pos (.inr hn1)]
            refine ⟨by rw [← HE.out, e5], by rw [← HC.out]; unfold entC; rw [e5]; rfl⟩)
          rw [hb0] at hkx
          obtain ⟨d0, d1, d2, d3, d4⟩ := hkx.c5
          clear HC HE HE3 hl hf hkx
          go_upto_region 9 with fail
          go_quiet ((go_at_call 67; exact Calls.quiet_of_same ((pframes_any g gf n cp m _ (HM3.out.on (below_drewN (Below.refl _ _) _))).mono fun _ _ h => ⟨h.1, h.2.symm⟩)))
          rename_i nq
          replace hk := blk_below hk (below_drewN (Below.refl _ W3) nq)
          replace hB := below_drewN hB nq
          have hl4 := hk.lt
          clear e0 e1 e2 e3 e4 f0 f1 f2 f3 f4 hl3
          clear d0 d1 d2 d3 d4
          generalize W3.drewN nq = W4 at *
          obtain ⟨e0, e1, e2, e3, e4⟩ := hk.c5
          obtain ⟨f0, f1, f2, f3, f4⟩ := hk.f5
          go_wp2
          refine bodyPost_ret (results_cell_tmp rfl _ _ H 50 _ (0, 0) _ rfl (hk.set5 _ _ _ _ _) Try.underlying50 rfl (by kernel_rfl)) rfl ⟨by rw [hE2.out.1, hE2.out.2]; rfl, ?_⟩
          rw [HH.out]
          exact below_set5 hB (Nat.le_refl _) _ _ _ _ _
        · have hnn : ¬ ((n : Int) ≤ f) := hn1
          have hE2 : Hid (E = 0 ∧ C = #[.bool true, .bool lf, .bool (bitB x 2), .bool (bitB x 3), .int .i64 f]) := hide (by
            have e5 : entE n x lf = 0 := by rw [HE3.out, if_neg (by rintro (h | h); exact h hl; exact hn1 h)]
            refine ⟨by rw [← HE.out, e5], by rw [← HC.out]; unfold entC; rw [if_pos e5, hb0, hl, HF.out]⟩)
          have hn2 : f < (n : Int) := by omega
          rw [hb0, hl] at hkx
          rw [hl] at hl' hl''
          obtain ⟨d0, d1, d2, d3, d4⟩ := hkx.c5
          clear HC HE HE3 hl hf hn1 hnn
          go_upto_region 9 with fail
          go_quiet ((go_at_call 67; exact Calls.quiet_of_same ((pframes_any g gf n cp m _ (HM3.out.on (below_drewN (Below.refl _ _) _))).mono fun _ _ h => ⟨h.1, h.2.symm⟩)))
          rename_i nq
          replace hk := blk_below hk (below_drewN (Below.refl _ W3) nq)
          replace hB := below_drewN hB nq
          have hl4 := hk.lt
          clear e0 e1 e2 e3 e4 f0 f1 f2 f3 f4 hl3
          replace hkx := blk_below hkx (below_drewN (Below.refl _ W3) nq)
          clear d0 d1 d2 d3 d4
          generalize W3.drewN nq = W4 at *
          obtain ⟨d0, d1, d2, d3, d4⟩ := hkx.c5
          obtain ⟨e0, e1, e2, e3, e4⟩ := hk.c5
          obtain ⟨f0, f1, f2, f3, f4⟩ := hk.f5
          go_wp2
          refine bodyPost_ret (results_cell_tmp rfl _ _ H 50 _ (0, 0) _ rfl (hk.set5 _ _ _ _ _) Try.underlying50 rfl (by kernel_rfl)) rfl ⟨by rw [hE2.out.1, hE2.out.2]; rfl, ?_⟩
          rw [HH.out]
          exact below_set5 hB (Nat.le_refl _) _ _ _ _ _
      · have hl' : (bitB x 1 != lf) = true := by simpa using hl
        have hl'' : (bitB x 1 == lf) = false := by simpa using hl
        have hE2 : Hid (E = 5 ∧ C = #[.bool false, .bool false, .bool false, .bool false, .int .i64 0]) := hide (by
          have e5 : entE n x lf = 5 := by rw [HE3.out, if_pos (.inl hl)]
          refine ⟨by rw [← HE.out, e5], by rw [← HC.out]; unfold entC; rw [e5]; rfl⟩)
        rw [hb0] at hkx
        obtain ⟨d0, d1, d2, d3, d4⟩ := hkx.c5
        clear HC HE HE3 hl hkx
        go_upto_region 9 with fail
        go_quiet (fail)
        rename_i nq
        replace hk := blk_below hk (below_drewN (Below.refl _ W3) nq)
        replace hB := below_drewN hB nq
        have hl4 := hk.lt
        clear e0 e1 e2 e3 e4 f0 f1 f2 f3 f4 hl3
        clear d0 d1 d2 d3 d4
        generalize W3.drewN nq = W4 at *
        obtain ⟨e0, e1, e2, e3, e4⟩ := hk.c5
        obtain ⟨f0, f1, f2, f3, f4⟩ := hk.f5
        go_wp2
        refine bodyPost_ret (results_cell_tmp rfl _ _ H 50 _ (0, 0) _ rfl (hk.set5 _ _ _ _ _) Try.underlying50 rfl (by kernel_rfl)) rfl ⟨by rw [hE2.out.1, hE2.out.2]; rfl, ?_⟩
        rw [HH.out]
        exact below_set5 hB (Nat.le_refl _) _ _ _ _ _
end Go.Proofs.Ytjnnimdgmcpjoaa
