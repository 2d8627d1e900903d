/- The walks of package walk: entry, bad, levels. The walks of package walk: bad, levels. The walks of package walk: the iterator of levels. The walks of package walk: At. The walks of package walk: At. The walks of package walk: At of any numbers, Walk, Depth. The walks of package walk: Depth. -/
import Derived.Test.YtlfenakabedmfaaPhys
import Derived.Test.YtlfenakabedmfaaPte2
import Derived.Test.YtlfenakabedmfaaVaddr
import Derived.Test.YtlfenakabedmfaaIter
import Derived.Test.YtlfenakabedmfaaRef2
import Derived.Deep.QuietTactic
import Derived.BigQuiet
import Derived.Deep.CutBlock
import Derived.Deep.DeepCutAuto
import Derived.Test.YtlfenakabedmfaaMarks
import Derived.Sort.BigQuietIn
namespace Go.Proofs.Ytlfenakabedmfaa
open Go.RowKit Go.Shelf

/-- What is wrong with a table's word. -/
def entE (n : Nat) (x : Int) (lf : Bool) : Int := if decOk x = false then 5 else if bitB x 0 = false then 6 else if bitB x 1 ≠ lf ∨ (n : Int) ≤ x / 256 % 64 then 5 else 0
def entC (n : Nat) (x : Int) (lf : Bool) : Array Value := if entE n x lf = 0 then #[.bool (bitB x 0), .bool (bitB x 1), .bool (bitB x 2), .bool (bitB x 3), .int .i64 (x / 256 % 64)] else #[.bool false, .bool false, .bool false, .bool false, .int .i64 0]
theorem Blk.f5 {w : World} {g : Nat} {t : TypeId} {cs : Array Value} (h : Blk w g t cs) : w.frozen? ⟨g, 0, none⟩ = false ∧ w.frozen? ⟨g, 1, none⟩ = false ∧ w.frozen? ⟨g, 2, none⟩ = false ∧ w.frozen? ⟨g, 3, none⟩ = false ∧ w.frozen? ⟨g, 4, none⟩ = false := ⟨h.frozen 0, h.frozen 1, h.frozen 2, h.frozen 3, h.frozen 4⟩
theorem Blk.set5 {w : World} {g : Nat} {t : TypeId} {c0 c1 c2 c3 c4 : Value} (h : Blk w g t #[c0, c1, c2, c3, c4]) (v0 v1 v2 v3 v4 : Value) : Blk (((((w.setCell ⟨g, 0, none⟩ v0).setCell ⟨g, 1, none⟩ v1).setCell ⟨g, 2, none⟩ v2).setCell ⟨g, 3, none⟩ v3).setCell ⟨g, 4, none⟩ v4) g t #[v0, v1, v2, v3, v4] := by
  have h' := ((((h.set_ 0 v0).set_ 1 v1).set_ 2 v2).set_ 3 v3).set_ 4 v4
  simpa only [List.setIfInBounds_toArray, List.set_cons_zero, List.set_cons_succ] using h'
theorem below_set5 {B : Nat} {a w : World} (hb : Below B a w) {g : Nat} (hg : B ≤ g) (v0 v1 v2 v3 v4 : Value) : Below B a (((((w.setCell ⟨g, 0, none⟩ v0).setCell ⟨g, 1, none⟩ v1).setCell ⟨g, 2, none⟩ v2).setCell ⟨g, 3, none⟩ v3).setCell ⟨g, 4, none⟩ v4) := ((((hb.setCell (p := ⟨g, 0, none⟩) hg v0).setCell (p := ⟨g, 1, none⟩) hg v1).setCell (p := ⟨g, 2, none⟩) hg v2).setCell (p := ⟨g, 3, none⟩) hg v3).setCell (p := ⟨g, 4, none⟩) hg v4
theorem blk_below {W w2 : World} {g : Nat} {t : TypeId} {cs : Array Value} (h : Blk W g t cs) (hb : Below W.heap.size W w2) : Blk w2 g t cs := h.below hb h.lt
theorem MemAt.on {w w' : World} {g gf n cp : Nat} {m : Nat → Int} (h : MemAt w g gf n cp m) (hb : Below w.heap.size w w') : MemAt w' g gf n cp m := h.below hb h.hd.lt h.ltf

set_option maxRecDepth 100000 in
set_option maxHeartbeats 2000000 in
theorem entry_any (g gf n cp : Nat) (m : Nat → Int) (j : Nat) (lf : Bool) (w : World) (hM : MemAt w g gf n cp m) (hj : j < 8 * n) :
    Calls Try.prog 54 #[.pointer (some ⟨g, 0, none⟩), .int .u64 (8 * (j : Int)), .bool lf] w fun e w' => e = .returned (.tuple #[.agg (entC n (m j) lf), .int .i64 (entE n (m j) lf)]) ∧ Below w.heap.size w w' := by
  obtain ⟨C, hC⟩ : ∃ C, entC n (m j) lf = C := ⟨_, rfl⟩
  obtain ⟨E, hE⟩ : ∃ E, entE n (m j) lf = E := ⟨_, rfl⟩
  rw [hC, hE]
  have HC := hide hC
  have HE := hide hE
  have hx := hM.word j
  have hn := hM.le
  have hM0 := hM.on (((Below.refl _ w).alloc (Nat.le_refl _) (.cells #[.bool false, .bool false, .bool false, .bool false, .int .i64 0] 50)))
  clear hC hE hM
  go_enter Try.func54, Try.ntmps54
  go_upto_region 1 with fail
  have hk := Blk.new w 50 #[.bool false, .bool false, .bool false, .bool false, .int .i64 0]
  have hB : Below w.heap.size w (w.alloc (.cells #[.bool false, .bool false, .bool false, .bool false, .int .i64 0] 50)) := (Below.refl _ w).alloc (Nat.le_refl _) _
  generalize w.alloc (.cells #[.bool false, .bool false, .bool false, .bool false, .int .i64 0] 50) = W at *
  generalize hH : w.heap.size = H at *
  have HH := hide hH
  clear hH
  have HM := hide hM0
  clear hM0
  go_wp2_with fail
  refine (load_in g gf n cp m j _ HM.out hj).mono ?_
  rintro e w1 ⟨rfl, rfl⟩
  generalize m j = x at *
  go_wp2_with fail
  refine (dec_any x hx.1 hx.2 _).mono ?_
  rintro e w2 ⟨rfl, hb2⟩
  have hM2 := HM.out.on hb2
  replace hB := hB.trans (hb2.mono (Nat.le_of_lt hk.lt))
  replace hk := blk_below hk hb2
  have hlt := hk.lt
  clear hb2 HM hx
  cases hok : decOk x with
  | false =>
    have hE2 : Hid (E = 5 ∧ C = #[.bool false, .bool false, .bool false, .bool false, .int .i64 0]) := hide (by
      have e5 : entE n x lf = 5 := by unfold entE; rw [if_pos hok]
      refine ⟨by rw [← HE.out, e5], by rw [← HC.out]; unfold entC; rw [e5]; rfl⟩)
    rw [show decA x = .agg #[.bool false, .bool false, .bool false, .bool false, .int .i64 0] by unfold decA; rw [hok]; rfl, show decE x = 5 by unfold decE; rw [hok]; rfl]
    replace hk := hk.alloc (.cells #[.bool false, .bool false, .bool false, .bool false, .int .i64 0] 50)
    replace hB := hB.alloc (show H ≤ w2.heap.size by omega) (.cells #[.bool false, .bool false, .bool false, .bool false, .int .i64 0] 50)
    clear hok HC HE hM2
    go_upto_region 5 with fail
    generalize w2.alloc (.cells #[.bool false, .bool false, .bool false, .bool false, .int .i64 0] 50) = W3 at *
    obtain ⟨e0, e1, e2, e3, e4⟩ := hk.c5
    obtain ⟨f0, f1, f2, f3, f4⟩ := hk.f5
    have hl3 := hk.lt
    clear hlt
    go_wp2
    refine bodyPost_ret (results_cell_tmp rfl _ _ H 50 _ (0, 0) _ rfl (hk.set5 _ _ _ _ _) Try.underlying50 rfl (by kernel_rfl)) rfl ⟨by rw [hE2.out.1, hE2.out.2]; rfl, ?_⟩
    rw [HH.out]
    exact below_set5 hB (Nat.le_refl _) _ _ _ _ _
  | true =>
    rw [show decA x = .agg #[.bool (bitB x 0), .bool (bitB x 1), .bool (bitB x 2), .bool (bitB x 3), .int .i64 (x / 256 % 64)] by unfold decA; rw [if_pos hok], show decE x = 0 by unfold decE; rw [if_pos hok]]
    replace hk := hk.alloc (.cells #[.bool (bitB x 0), .bool (bitB x 1), .bool (bitB x 2), .bool (bitB x 3), .int .i64 (x / 256 % 64)] 50)
    replace hB := hB.alloc (show H ≤ w2.heap.size by omega) (.cells #[.bool (bitB x 0), .bool (bitB x 1), .bool (bitB x 2), .bool (bitB x 3), .int .i64 (x / 256 % 64)] 50)
    have hkx := Blk.new w2 50 #[.bool (bitB x 0), .bool (bitB x 1), .bool (bitB x 2), .bool (bitB x 3), .int .i64 (x / 256 % 64)]
    have hM3 := hM2.on ((Below.refl _ w2).alloc (Nat.le_refl _) (.cells #[.bool (bitB x 0), .bool (bitB x 1), .bool (bitB x 2), .bool (bitB x 3), .int .i64 (x / 256 % 64)] 50))
    have hE1 : entE n x lf = if bitB x 0 = false then 6 else if bitB x 1 ≠ lf ∨ (n : Int) ≤ x / 256 % 64 then 5 else 0 := by unfold entE; rw [if_neg (by rw [hok]; simp)]
    have HE1 := hide hE1
    clear hok hM2 hE1
    go_upto_region 5 with fail
    generalize w2.alloc (.cells #[.bool (bitB x 0), .bool (bitB x 1), .bool (bitB x 2), .bool (bitB x 3), .int .i64 (x / 256 % 64)] 50) = W3 at *
    generalize w2.heap.size = G at *
    obtain ⟨e0, e1, e2, e3, e4⟩ := hk.c5
    obtain ⟨f0, f1, f2, f3, f4⟩ := hk.f5
    have hl3 := hk.lt
    have hlx := hkx.lt
    have hne : H ≠ G := by omega
    have HM3 := hide hM3
    clear hlt hM3
    cases hb0 : bitB x 0 with
    | false =>
      have hE2 : Hid (E = 6 ∧ C = #[.bool false, .bool false, .bool false, .bool false, .int .i64 0]) := hide (by
        have e5 : entE n x lf = 6 := by rw [HE1.out, if_pos hb0]
        refine ⟨by rw [← HE.out, e5], by rw [← HC.out]; unfold entC; rw [e5]; rfl⟩)
      rw [hb0] at hkx
      obtain ⟨d0, d1, d2, d3, d4⟩ := hkx.c5
      clear HC HE HE1
      go_wp2
      refine bodyPost_ret (results_cell_tmp rfl _ _ H 50 _ (0, 0) _ rfl (hk.set5 _ _ _ _ _) Try.underlying50 rfl (by kernel_rfl)) rfl ⟨by rw [hE2.out.1, hE2.out.2]; rfl, ?_⟩
      rw [HH.out]
      exact below_set5 hB (Nat.le_refl _) _ _ _ _ _
    | true =>
      have hE3 : entE n x lf = if bitB x 1 ≠ lf ∨ (n : Int) ≤ x / 256 % 64 then 5 else 0 := by rw [HE1.out, if_neg (by rw [hb0]; simp)]
      have HE3 := hide hE3
      clear HE1 hE3
      by_cases hl : bitB x 1 = lf
      · have hl' : (bitB x 1 != lf) = false := by simpa using hl
        have hl'' : (bitB x 1 == lf) = true := by simpa using hl
        generalize hf : x / 256 % 64 = f at *
        have HF := hide hf
        by_cases hn1 : (n : Int) ≤ f
        · have hE2 : Hid (E = 5 ∧ C = #[.bool false, .bool false, .bool false, .bool false, .int .i64 0]) := hide (by
            have e5 : entE n x lf = 5 := by rw [HE3.out, if_pos (.inr hn1)]
            refine ⟨by rw [← HE.out, e5], by rw [← HC.out]; unfold entC; rw [e5]; rfl⟩)
          rw [hb0] at hkx
          obtain ⟨d0, d1, d2, d3, d4⟩ := hkx.c5
          clear HC HE HE3 hl hf hkx
          go_upto_region 9 with fail
          go_quiet ((go_at_call 67; exact Calls.quiet_of_same ((pframes_any g gf n cp m _ (HM3.out.on (below_drewN (Below.refl _ _) _))).mono fun _ _ h => ⟨h.1, h.2.symm⟩)))
          rename_i nq
          replace hk := blk_below hk (below_drewN (Below.refl _ W3) nq)
          replace hB := below_drewN hB nq
          have hl4 := hk.lt
          clear e0 e1 e2 e3 e4 f0 f1 f2 f3 f4 hl3
          clear d0 d1 d2 d3 d4
          generalize W3.drewN nq = W4 at *
          obtain ⟨e0, e1, e2, e3, e4⟩ := hk.c5
          obtain ⟨f0, f1, f2, f3, f4⟩ := hk.f5
          go_wp2
          refine bodyPost_ret (results_cell_tmp rfl _ _ H 50 _ (0, 0) _ rfl (hk.set5 _ _ _ _ _) Try.underlying50 rfl (by kernel_rfl)) rfl ⟨by rw [hE2.out.1, hE2.out.2]; rfl, ?_⟩
          rw [HH.out]
          exact below_set5 hB (Nat.le_refl _) _ _ _ _ _
        · have hnn : ¬ ((n : Int) ≤ f) := hn1
          have hE2 : Hid (E = 0 ∧ C = #[.bool true, .bool lf, .bool (bitB x 2), .bool (bitB x 3), .int .i64 f]) := hide (by
            have e5 : entE n x lf = 0 := by rw [HE3.out, if_neg (by rintro (h | h); exact h hl; exact hn1 h)]
            refine ⟨by rw [← HE.out, e5], by rw [← HC.out]; unfold entC; rw [if_pos e5, hb0, hl, HF.out]⟩)
          have hn2 : f < (n : Int) := by omega
          rw [hb0, hl] at hkx
          rw [hl] at hl' hl''
          obtain ⟨d0, d1, d2, d3, d4⟩ := hkx.c5
          clear HC HE HE3 hl hf hn1 hnn
          go_upto_region 9 with fail
          go_quiet ((go_at_call 67; exact Calls.quiet_of_same ((pframes_any g gf n cp m _ (HM3.out.on (below_drewN (Below.refl _ _) _))).mono fun _ _ h => ⟨h.1, h.2.symm⟩)))
          rename_i nq
          replace hk := blk_below hk (below_drewN (Below.refl _ W3) nq)
          replace hB := below_drewN hB nq
          have hl4 := hk.lt
          clear e0 e1 e2 e3 e4 f0 f1 f2 f3 f4 hl3
          replace hkx := blk_below hkx (below_drewN (Below.refl _ W3) nq)
          clear d0 d1 d2 d3 d4
          generalize W3.drewN nq = W4 at *
          obtain ⟨d0, d1, d2, d3, d4⟩ := hkx.c5
          obtain ⟨e0, e1, e2, e3, e4⟩ := hk.c5
          obtain ⟨f0, f1, f2, f3, f4⟩ := hk.f5
          go_wp2
          refine bodyPost_ret (results_cell_tmp rfl _ _ H 50 _ (0, 0) _ rfl (hk.set5 _ _ _ _ _) Try.underlying50 rfl (by kernel_rfl)) rfl ⟨by rw [hE2.out.1, hE2.out.2]; rfl, ?_⟩
          rw [HH.out]
          exact below_set5 hB (Nat.le_refl _) _ _ _ _ _
      · have hl' : (bitB x 1 != lf) = true := by simpa using hl
        have hl'' : (bitB x 1 == lf) = false := by simpa using hl
        have hE2 : Hid (E = 5 ∧ C = #[.bool false, .bool false, .bool false, .bool false, .int .i64 0]) := hide (by
          have e5 : entE n x lf = 5 := by rw [HE3.out, if_pos (.inl hl)]
          refine ⟨by rw [← HE.out, e5], by rw [← HC.out]; unfold entC; rw [e5]; rfl⟩)
        rw [hb0] at hkx
        obtain ⟨d0, d1, d2, d3, d4⟩ := hkx.c5
        clear HC HE HE3 hl hkx
        go_upto_region 9 with fail
        go_quiet (fail)
        rename_i nq
        replace hk := blk_below hk (below_drewN (Below.refl _ W3) nq)
        replace hB := below_drewN hB nq
        have hl4 := hk.lt
        clear e0 e1 e2 e3 e4 f0 f1 f2 f3 f4 hl3
        clear d0 d1 d2 d3 d4
        generalize W3.drewN nq = W4 at *
        obtain ⟨e0, e1, e2, e3, e4⟩ := hk.c5
        obtain ⟨f0, f1, f2, f3, f4⟩ := hk.f5
        go_wp2
        refine bodyPost_ret (results_cell_tmp rfl _ _ H 50 _ (0, 0) _ rfl (hk.set5 _ _ _ _ _) Try.underlying50 rfl (by kernel_rfl)) rfl ⟨by rw [hE2.out.1, hE2.out.2]; rfl, ?_⟩
        rw [HH.out]
        exact below_set5 hB (Nat.le_refl _) _ _ _ _ _
end Go.Proofs.Ytlfenakabedmfaa
namespace Go.Proofs.Ytlfenakabedmfaa
open Go.RowKit Go.Shelf
def badV (n : Nat) (root page level : Int) : Int := if root < 0 ∨ (n : Int) ≤ root ∨ page < 0 ∨ 512 ≤ page ∨ level < 1 ∨ 3 < level then 3 else 0
set_option maxHeartbeats 2000000 in
theorem bad_any (g gf n cp : Nat) (m : Nat → Int) (root page level : Int) (w : World) (hM : MemAt w g gf n cp m) :
    Calls Try.prog 77 #[.pointer (some ⟨g, 0, none⟩), .int .i64 root, .int .i64 page, .int .i64 level] w fun e w' => e = .returned (.int .i64 (badV n root page level)) ∧ w = w' := by
  unfold badV
  have hn := hM.le
  have HM := hide hM
  clear hM
  by_cases h1 : root < 0
  · rw [if_pos (by omega)]
    go_enter Try.func77, Try.ntmps77
    go_wp2_with fail
    go_ret
    exact ⟨rfl, rfl⟩
  by_cases h2 : (n : Int) ≤ root
  · rw [if_pos (by omega)]
    go_enter Try.func77, Try.ntmps77
    go_wp2_with fail
    refine (pframes_any _ _ _ _ _ _ HM.out).mono ?_
    rintro e w' ⟨rfl, rfl⟩
    go_wp2_with fail
    go_ret
    exact ⟨rfl, rfl⟩
  by_cases h3 : page < 0
  · rw [if_pos (by omega)]
    go_enter Try.func77, Try.ntmps77
    go_wp2_with fail
    refine (pframes_any _ _ _ _ _ _ HM.out).mono ?_
    rintro e w' ⟨rfl, rfl⟩
    go_wp2_with fail
    go_ret
    exact ⟨rfl, rfl⟩
  by_cases h4 : 512 ≤ page
  · rw [if_pos (by omega)]
    go_enter Try.func77, Try.ntmps77
    go_wp2_with fail
    refine (pframes_any _ _ _ _ _ _ HM.out).mono ?_
    rintro e w' ⟨rfl, rfl⟩
    go_wp2_with fail
    go_ret
    exact ⟨rfl, rfl⟩
  by_cases h5 : level < 1
  · rw [if_pos (by omega)]
    go_enter Try.func77, Try.ntmps77
    go_wp2_with fail
    refine (pframes_any _ _ _ _ _ _ HM.out).mono ?_
    rintro e w' ⟨rfl, rfl⟩
    go_wp2_with fail
    go_ret
    exact ⟨rfl, rfl⟩
  by_cases h6 : 3 < level
  · rw [if_pos (by omega)]
    go_enter Try.func77, Try.ntmps77
    go_wp2_with fail
    refine (pframes_any _ _ _ _ _ _ HM.out).mono ?_
    rintro e w' ⟨rfl, rfl⟩
    go_wp2_with fail
    go_ret
    exact ⟨rfl, rfl⟩
  rw [if_neg (by omega)]
  go_enter Try.func77, Try.ntmps77
  go_wp2_with fail
  refine (pframes_any _ _ _ _ _ _ HM.out).mono ?_
  rintro e w' ⟨rfl, rfl⟩
  go_wp2_with fail
  go_ret
  exact ⟨rfl, rfl⟩

theorem bad_nil (root page level : Int) (w : World) : Calls Try.prog 77 #[.pointer none, .int .i64 root, .int .i64 page, .int .i64 level] w fun e w' => e = .returned (.int .i64 1) ∧ w = w' := by
  go_enter Try.func77, Try.ntmps77
  go_wp2_with fail
  go_ret
  exact ⟨rfl, rfl⟩
/-! The levels of a page. -/
section
variable (n : Nat) (m : Nat → Int) (root page : Nat)
/-- The page's index on a level. -/
def ixN (p k : Nat) : Nat := if k = 1 then p / 64 else if k = 2 then p / 8 % 8 else p % 8
/-- The frame of a level's table: on level 1 the root, else the one that the entry above tells. -/
def frN : Nat → Nat
  | 0 => root
  | 1 => root
  | k + 2 => (m (8 * frN (k + 1) + ixN page (k + 1)) / 256 % 64).toNat
/-- The number of a level's word. -/
def wdN (k : Nat) : Nat := 8 * frN m root page k + ixN page k
def erN (k : Nat) : Int := entE n (m (wdN m root page k)) false
/-- What comes behind a level: level, address, code. -/
def restL : Nat → List (Nat × Int × Int)
  | 1 => if erN n m root page 1 = 0 then (2, 8 * (wdN m root page 2 : Int), 0) :: (if erN n m root page 2 = 0 then [(3, 8 * (wdN m root page 3 : Int), 0)] else [(3, 0, erN n m root page 2)]) else [(2, 0, erN n m root page 1)]
  | 2 => if erN n m root page 2 = 0 then [(3, 8 * (wdN m root page 3 : Int), 0)] else [(3, 0, erN n m root page 2)]
  | _ => []
def stepL : List (Nat × Int × Int) := (1, 8 * (wdN m root page 1 : Int), 0) :: restL n m root page 1
end
theorem restL_yes {n : Nat} {m : Nat → Int} {root page k : Nat} (hk : 1 ≤ k) (h2 : k ≤ 2) (h : erN n m root page k = 0) : restL n m root page k = (k + 1, 8 * (wdN m root page (k + 1) : Int), 0) :: restL n m root page (k + 1) := by
  have : k = 1 ∨ k = 2 := by omega
  rcases this with rfl | rfl
  · show (if _ then _ else _) = _
    rw [if_pos h]; rfl
  · show (if _ then _ else _) = _
    rw [if_pos h]; rfl
theorem restL_no {n : Nat} {m : Nat → Int} {root page k : Nat} (hk : 1 ≤ k) (h2 : k ≤ 2) (h : ¬ erN n m root page k = 0) : restL n m root page k = [(k + 1, 0, erN n m root page k)] := by
  have : k = 1 ∨ k = 2 := by omega
  rcases this with rfl | rfl
  · show (if _ then _ else _) = _
    rw [if_neg h]
  · show (if _ then _ else _) = _
    rw [if_neg h]
theorem ixN_lt {p : Nat} (k : Nat) (hp : p < 512) : ixN p k < 8 := by
  unfold ixN
  split
  · omega
  · split <;> omega
theorem idx_nat {p k : Nat} (hp : p < 512) (h1 : 1 ≤ k) (h3 : k ≤ 3) : idxV (p : Int) (k : Int) = (ixN p k : Int) := by
  have : k = 1 ∨ k = 2 ∨ k = 3 := by omega
  unfold idxV ixN
  rw [if_pos (by omega)]
  rcases this with rfl | rfl | rfl <;> simp
theorem entE_zero {n : Nat} {x : Int} {lf : Bool} (h : entE n x lf = 0) : decOk x = true ∧ bitB x 0 = true ∧ bitB x 1 = lf ∧ x / 256 % 64 < (n : Int) := by
  unfold entE at h
  by_cases h1 : decOk x = false
  · rw [if_pos h1] at h; exact absurd h (by decide)
  rw [if_neg h1] at h
  by_cases h2 : bitB x 0 = false
  · rw [if_pos h2] at h; exact absurd h (by decide)
  rw [if_neg h2] at h
  by_cases h3 : bitB x 1 ≠ lf ∨ (n : Int) ≤ x / 256 % 64
  · rw [if_pos h3] at h; exact absurd h (by decide)
  exact ⟨by simpa using h1, by simpa using h2, by by_cases e : bitB x 1 = lf; exact e; exact absurd (.inl e) h3, by omega⟩
theorem frN_succ {n : Nat} {m : Nat → Int} {root page k : Nat} (h1 : 1 ≤ k) (h : erN n m root page k = 0) : (frN m root page (k + 1) : Int) = m (wdN m root page k) / 256 % 64 ∧ frN m root page (k + 1) < n := by
  obtain ⟨j, rfl⟩ : ∃ j, k = j + 1 := ⟨k - 1, by omega⟩
  have he := (entE_zero h).2.2.2
  have e : frN m root page (j + 1 + 1) = (m (wdN m root page (j + 1)) / 256 % 64).toNat := rfl
  have h0 : 0 ≤ m (wdN m root page (j + 1)) / 256 % 64 := Int.emod_nonneg _ (by decide)
  rw [e]
  omega
theorem levels_any (p : Option Addr) (root page : Int) (w : World) :
    Calls Try.prog 78 #[.pointer p, .int .i64 root, .int .i64 page] w fun e w' => e = .returned (.func (.func 90) #[] #[.pointer (some ⟨w.heap.size + 1, 0, none⟩), .pointer (some ⟨w.heap.size + 1 + 1, 0, none⟩), .pointer (some ⟨w.heap.size, 0, none⟩)]) ∧
      w' = ((w.alloc (.cells #[.pointer p] 24)).alloc (.cells #[.int .i64 root] 3)).alloc (.cells #[.int .i64 page] 3) := by
  go_enter Try.func78, Try.ntmps78
  go_wp2_with fail
  go_ret
  exact ⟨rfl, rfl⟩
end Go.Proofs.Ytlfenakabedmfaa
namespace Go.Proofs.Ytlfenakabedmfaa
open Go.RowKit Go.Shelf
attribute [local go_sem] Oper.semAt_some

/-- Cells lie as they lay, but for the blocks of T. -/
def KeepC (T : Nat → Prop) (A B : World) : Prop := ∀ (k : Nat) (o : Obj), A.heap[k]? = some o → o.isCells = true → ¬ T k → B.heap[k]? = some o
theorem KeepC.refl (T : Nat → Prop) (A : World) : KeepC T A A := fun _ _ h _ _ => h
theorem KeepC.blk {T : Nat → Prop} {A B : World} {g : Nat} {t : TypeId} {cs : Array Value} (h : KeepC T A B) (hb : Blk A g t cs) (hT : ¬ T g) : Blk B g t cs := h g _ hb rfl hT
theorem KeepC.of_mod {T : Nat → Prop} {A B : World} (h : Mod T A B) : KeepC T A B := fun k _ ho _ hT => (h.block k (Array.getElem?_eq_some_iff.1 ho).1 hT).trans ho
theorem KeepC.trans {T : Nat → Prop} {A B C : World} (h : KeepC T A B) (k : KeepC T B C) : KeepC T A C := fun i o hi hc hT => k i o (h i o hi hc hT) hc hT
theorem KeepC.skips {T : Nat → Prop} {n : Nat} {A B C D : World} (h1 : Skips n A B) (h2 : KeepC T B C) (h3 : Skips n C D) : KeepC T A D :=
  fun k o ho hc hT => h3.block k o (h2 k o (h1.block k o ho (.inl hc)) hc hT) (.inl hc)
theorem MemAt.keepC {T : Nat → Prop} {w w' : World} {g gf n cp : Nat} {m : Nat → Int} (h : MemAt w g gf n cp m) (hk : KeepC T w w') (h1 : ¬ T g) (h2 : ¬ T gf) : MemAt w' g gf n cp m := by
  obtain ⟨cs, hr, hs, hc⟩ := h.row
  exact ⟨hk.blk h.hd h1, ⟨cs, hk.blk hr h2, hs, hc⟩, h.pos, h.le, h.ncp, h.word⟩
theorem step_next {n : Nat} {m : Nat → Int} {root page k : Nat} (hd : (stepL n m root page).drop k = restL n m root page k) {x : Nat × Int × Int} {r : List (Nat × Int × Int)} (h : restL n m root page k = x :: r) : (stepL n m root page)[k]? = some x ∧ (stepL n m root page).drop (k + 1) = r := by
  have e : (stepL n m root page).drop k = x :: r := hd.trans h
  refine ⟨?_, ?_⟩
  · have := congrArg (fun l : List (Nat × Int × Int) => l[0]?) e
    simpa using this
  · rw [← List.drop_drop, e]; rfl
theorem step_len {n : Nat} {m : Nat → Int} {root page k : Nat} {x : Nat × Int × Int} (h1 : (stepL n m root page)[k]? = some x) (h2 : (stepL n m root page).drop (k + 1) = []) : (stepL n m root page).length = k + 1 := by
  have a := (List.getElem?_eq_some_iff.1 h1).1
  have b := List.drop_eq_nil_iff.1 h2
  omega
set_option maxRecDepth 100000 in
set_option maxHeartbeats 2000000 in
theorem levels_iter (F : Fence) (n : Nat) (hF : WideF F Try.prog) (hro : F.round = none) (hn : 1 ≤ n) (g gf N cp : Nat) (m : Nat → Int) (root page Br Bp Bm : Nat) (w : World) (hM : MemAt w g gf N cp m)
    (br : Blk w Br 3 #[.int .i64 (root : Int)]) (bp : Blk w Bp 3 #[.int .i64 (page : Int)]) (bm : Blk w Bm 24 #[.pointer (some ⟨g, 0, none⟩)]) (hr : root < N) (hp : page < 512)
    (T : Nat → Prop) (hT : ∀ k, T k → k < w.heap.size ∧ k ≠ g ∧ k ≠ gf ∧ k ≠ Br ∧ k ≠ Bp ∧ k ≠ Bm) :
    Iter F n Try.prog 90 #[.pointer (some ⟨Br, 0, none⟩), .pointer (some ⟨Bp, 0, none⟩), .pointer (some ⟨Bm, 0, none⟩)] (fun x : Nat × Int × Int => #[.int .i64 (x.1 : Int), .agg #[.int .u64 x.2.1, .int .i64 x.2.2]])
      (fun pre x _ => (stepL N m root page)[pre.length]? = some x) (fun _ _ => KeepC T) (fun xs _ => xs.length = (stepL N m root page).length) w := by
  intro l J Jx W hsk hl hJ hJx hY h0
  have hT' : ∀ k, w.heap.size ≤ k → ¬ T k := fun k hk h => by have := (hT k h).1; omega
  have tg : ¬ T g := fun h => (hT g h).2.1 rfl
  have tf : ¬ T gf := fun h => (hT gf h).2.2.1 rfl
  have tr : ¬ T Br := fun h => (hT Br h).2.2.2.1 rfl
  have tp : ¬ T Bp := fun h => (hT Bp h).2.2.2.2.1 rfl
  have tm : ¬ T Bm := fun h => (hT Bm h).2.2.2.2.2 rfl
  replace hM := hM.same (hsk.same hM.hd) (by obtain ⟨cs, hb, _⟩ := hM.row; exact hsk.same hb)
  replace br := hsk.blk br
  replace bp := hsk.blk bp
  replace bm := hsk.blk bm
  have hz := hsk.size
  have r0 := br.cell 0
  refine callsIn_of_wp Try.func90 rfl (hF.fn _) ?_ hro
  simp only [Try.ntmps90, List.size_toArray, List.length_cons, List.length_nil, Nat.reduceAdd, Nat.reduceSub, Array.replicate_succ, Array.replicate_zero, List.push_toArray, List.append_toArray, List.nil_append, List.cons_append]
  have hfn := hF.fn
  have hn64 := hM.le
  have HF := hide hF
  have HY := hide hY
  have HJ := hide hJ
  have HT := hide hT'
  have HX := hide (And.intro tg (And.intro tf (And.intro tr (And.intro tp tm))))
  clear hF hY hJ hJx hT hT' tg tf tr tp tm hsk
  gi_wp2
  gi_loopw [5, 6] (fun f i wr => ∃ (k : Nat) (ys : List (Nat × Int × Int)), 1 ≤ k ∧ k ≤ 3 ∧ f = .int .i64 (frN m root page k : Int) ∧ i = .int .i64 k ∧ ys.length = k - 1 ∧ frN m root page k < N ∧ (stepL N m root page)[k - 1]? = some (k, 8 * (wdN m root page k : Int), 0) ∧ (stepL N m root page).drop k = restL N m root page k ∧ J ys wr ∧ MemAt wr g gf N cp m ∧ Blk wr Br 3 #[.int .i64 (root : Int)] ∧ Blk wr Bp 3 #[.int .i64 (page : Int)] ∧ Blk wr Bm 24 #[.pointer (some ⟨g, 0, none⟩)] ∧ W.heap.size ≤ wr.heap.size) (fun _ i _ => 4 - (intOf i).toNat)
  case atStart => exact ⟨1, [], Nat.le_refl _, by decide, rfl, rfl, rfl, hr, rfl, rfl, h0, hM, br, bp, bm, Nat.le_refl _⟩
  case round =>
    obtain ⟨k, ys, hk1, hk3, rfl, rfl, hlen, hfr, hst, hdr, hj, hM', br', bp', bm', hzr⟩ := hrel
    clear r0 h0 br bp bm
    have p0 := bp'.cell 0
    have m0 := bm'.cell 0
    have hix := ixN_lt k hp
    have hidx := idx_nat hp hk1 hk3
    have hwd : (wdN m root page k : Int) = 8 * (frN m root page k : Int) + (ixN page k : Int) := by unfold wdN; omega
    have hjlt : wdN m root page k < 8 * N := by unfold wdN; omega
    have hj1 := HJ.out ys wr (wr.alloc (.cells #[.int .u64 (8 * (wdN m root page k : Int)), .int .i64 0] 169)) hj (Skips.alloc _ _ _)
    have HM1 := hide (hM'.on ((Below.refl _ wr).alloc (Nat.le_refl _) (.cells #[.int .u64 (8 * (wdN m root page k : Int)), .int .i64 0] 169)))
    have HR1 := hide (br'.alloc (.cells #[.int .u64 (8 * (wdN m root page k : Int)), .int .i64 0] 169))
    have HP1 := hide (bp'.alloc (.cells #[.int .u64 (8 * (wdN m root page k : Int)), .int .i64 0] 169))
    have HB1 := hide (bm'.alloc (.cells #[.int .u64 (8 * (wdN m root page k : Int)), .int .i64 0] 169))
    have HS1 := hide (Blk.new wr 169 #[.int .u64 (8 * (wdN m root page k : Int)), .int .i64 0])
    obtain ⟨fn, tmps, assign, body, hy, hR⟩ := HY.out ys (k, 8 * (wdN m root page k : Int), 0) _ hj1 (by rw [hlen]; exact hst)
    have HL := hide hlen
    have HD := hide hdr
    have HST := hide hst
    have HFR := hide hfr
    have HJ1 := hide hj1
    clear hlen hdr hst hj hj1 hM' br' bp' bm'
    have e1 : IntKind.i64.wrap ((frN m root page k : Int) * 64) = (frN m root page k : Int) * 64 := IntWalk.i64_in _ (by omega)
    have e2 : IntKind.i64.wrap (8 * (ixN page k : Int)) = 8 * (ixN page k : Int) := IntWalk.i64_in _ (by omega)
    have e3 : IntKind.i64.wrap ((frN m root page k : Int) * 64 + 8 * (ixN page k : Int)) = 8 * (wdN m root page k : Int) := by rw [IntWalk.i64_in _ (by omega)]; omega
    have e4 : IntKind.u64.wrap (8 * (wdN m root page k : Int)) = 8 * (wdN m root page k : Int) := IntWalk.u64_in _ (by omega)
    have HWD := hide hwd
    clear hwd
    gi_wp2_with (gi_at_call 91; refine (HF.out.calls (idx_any (page : Int) (k : Int) _)).mono ?_; rintro e w' ⟨rfl, rfl⟩; rw [hidx])
    refine hR.mono ?_
    rintro e W3 (⟨rfl, hJ3, hk3⟩ | ⟨rfl, hJx3⟩)
    · have HM3 := hide (HM1.out.keepC hk3 HX.out.1 HX.out.2.1)
      have hR3 := hk3.blk HR1.out HX.out.2.2.1
      have hP3 := hk3.blk HP1.out HX.out.2.2.2.1
      have hB3 := hk3.blk HB1.out HX.out.2.2.2.2
      have hS3 := hk3.blk HS1.out (HT.out _ (by omega))
      have hz3 := hS3.lt
      clear hR hy hk3 e1 e2 e3 e4 hidx hix p0 m0
      by_cases h3 : k = 3
      · subst h3
        have hdr := HD.out
        have hlen3 := step_len HST.out hdr
        have HLL := hide hlen3
        clear hdr hlen3
        gi_wp2
        refine bodyPost_ret (results_none rfl _ _ _) rfl ⟨⟨_, rfl⟩, .inl ⟨ys ++ [(3, 8 * (wdN m root page 3 : Int), 0)], ?_, hJ3⟩⟩
        rw [HLL.out, List.length_append, HL.out]
        rfl
      · have hk2 : k ≤ 2 := by omega
        have hk2' : (k : Int) < 3 := by omega
        have m0 := hB3.cell 0
        have s0 := hS3.cell 0
        have HR3 := hide hR3
        have HP3 := hide hP3
        have HB3 := hide hB3
        have HJ3 := hide hJ3
        clear hR3 hP3 hB3 hJ3
        by_cases hE : erN N m root page k = 0
        · obtain ⟨a1, a2, a3, a4⟩ := entE_zero hE
          obtain ⟨f1, f2⟩ := frN_succ hk1 hE
          have hC : entC N (m (wdN m root page k)) false = #[.bool true, .bool false, .bool (bitB (m (wdN m root page k)) 2), .bool (bitB (m (wdN m root page k)) 3), .int .i64 (frN m root page (k + 1) : Int)] := by
            unfold entC
            rw [if_pos (show entE N (m (wdN m root page k)) false = 0 from hE), a2, a3, f1]
          have hE' : entE N (m (wdN m root page k)) false = 0 := hE
          obtain ⟨n1, n2⟩ := step_next HD.out (restL_yes hk1 hk2 hE)
          have HN1 := hide n1
          have HN2 := hide n2
          have HF2 := hide f2
          clear hE a1 a2 a3 a4 f1 f2 n1 n2
          gi_wp2_with (gi_at_call 54; refine (HF.out.calls (entry_any g gf N cp m (wdN m root page k) false _ HM3.out hjlt)).mono ?_; rintro e w4 ⟨rfl, hb4⟩; rw [hC, hE'])
          go_roundw
          case rel =>
            have hx4 : Ext W3 (w4.alloc (.cells #[.bool true, .bool false, .bool (bitB (m (wdN m root page k)) 2), .bool (bitB (m (wdN m root page k)) 3), .int .i64 (frN m root page (k + 1) : Int)] 50)) := Ext.of_below (hb4.alloc hb4.size _)
            refine ⟨k + 1, ys ++ [(k, 8 * (wdN m root page k : Int), 0)], by omega, by omega, rfl, by go_num, ?_, HF2.out, HN1.out, HN2.out, HJ.out _ _ _ HJ3.out (hx4.skips _), HM3.out.on hx4.below, (hx4.skips 0).blk HR3.out, (hx4.skips 0).blk HP3.out, (hx4.skips 0).blk HB3.out, ?_⟩
            · rw [List.length_append, HL.out]; show k - 1 + 1 = k + 1 - 1; omega
            · have := hx4.size; omega
          case measure => simp [intOf]; omega
        · have hC : entC N (m (wdN m root page k)) false = #[.bool false, .bool false, .bool false, .bool false, .int .i64 0] := by
            unfold entC
            rw [if_neg (show ¬ entE N (m (wdN m root page k)) false = 0 from hE)]
          obtain ⟨n1, n2⟩ := step_next HD.out (restL_no hk1 hk2 hE)
          have hlen3 := step_len n1 n2
          obtain ⟨E, hEE⟩ : ∃ E, erN N m root page k = E := ⟨_, rfl⟩
          have hE' : entE N (m (wdN m root page k)) false = E := hEE
          rw [hEE] at hE n1
          have d : (E == 0) = false := by simpa using hE
          have HLL := hide hlen3
          have HN1 := hide n1
          clear hEE n1 n2 hlen3
          gi_wp2_with (gi_at_call 54; refine (HF.out.calls (entry_any g gf N cp m (wdN m root page k) false _ HM3.out hjlt)).mono ?_; rintro e w4 ⟨rfl, hb4⟩; rw [hC, hE']; have hx4 : Ext W3 (w4.alloc (.cells #[.bool false, .bool false, .bool false, .bool false, .int .i64 0] 50)) := Ext.of_below (hb4.alloc hb4.size _); obtain ⟨fn, tmps, assign, body, hy, hR⟩ := HY.out (ys ++ [(k, 8 * (wdN m root page k : Int), 0)]) (k + 1, 0, E) _ (HJ.out _ _ _ HJ3.out (hx4.skips _)) (by rw [List.length_append, HL.out]; exact (show k - 1 + 1 = k by omega) ▸ HN1.out); push_cast at hy; clear hx4 hb4)
          refine hR.mono ?_
          rintro e W5 (⟨rfl, hJ5, _⟩ | ⟨rfl, hJx5⟩)
          · gi_wp2
            refine bodyPost_ret (results_none rfl _ _ _) rfl ⟨⟨_, rfl⟩, .inl ⟨_, ?_, hJ5⟩⟩
            rw [HLL.out, List.length_append, List.length_append, HL.out]
            show k - 1 + 1 + 1 = k + 1
            omega
          · gi_wp2
            refine bodyPost_ret (results_none rfl _ _ _) rfl ?_
            exact ⟨⟨_, rfl⟩, .inr ⟨_, hJx5⟩⟩
    · gi_wp2
      refine bodyPost_ret (results_none rfl _ _ _) rfl ?_
      exact ⟨⟨_, rfl⟩, .inr ⟨_, hJx3⟩⟩
end Go.Proofs.Ytlfenakabedmfaa
namespace Go.Proofs.Ytlfenakabedmfaa
open Go.RowKit Go.Shelf
attribute [local go_sem] Oper.semAt_some

theorem wpIn_iter2 {F : Fence} {n : Nat} {P : Program} {α : Type} {g : Operand} {ps : Array Tmp} {assign body : Code} {Q : Exit → Act → World → Prop} {a : Act} {w : World}
    (hro : F.round = none) (h1 : 1 ≤ n) {gf : Nat} {lb : Array Value} (hg : a.eval g = .func (.func gf) #[] lb) (hFg : F.fn gf) (eg : ∀ args w, (callFunc gf args).run P w = .ok (.enter gf args) w)
    {encs : α → Array Value} {G : List α → α → World → Prop} {Kp : List α → α → World → World → Prop} {S : List α → World → Prop} (hseq : Iter F (n - 1) P gf lb encs G Kp S w)
    (hK : ∀ pre x A B C D, Skips w.heap.size A B → Kp pre x B C → Skips w.heap.size C D → Kp pre x A D)
    (hG : ∀ pre x A B, G pre x A → Skips w.heap.size A B → G pre x B) (hS : Stable w.heap.size S) (hps : ∀ x, (encs x).size = ps.size)
    (I : List α → World → Prop) (Ix : Code → List α → World → Prop) (hI : Stable w.heap.size I) (hIx : ∀ c, Stable w.heap.size (Ix c)) (h0 : I [] w) (a₁ : α → Nat → Act) (B : α → Nat → World → Prop) (hB : ∀ x s A C, B x s A → Skips w.heap.size A C → B x s C)
    (hassign : ∀ (l : Nat) (pre : List α) (x : α) (W : World) (K : Act → World → Prop), I pre W → (∀ s W', Ext W W' → w.heap.size ≤ s → B x s W' → K (a₁ x s) W') →
      assign.wpIn (F.inRound l) (n - 1 - 1) P (Exit.then K (fun _ _ _ => False)) { tmps := (ps.zip (encs x)).foldl (fun t (p, v) => t.setIfInBounds p v) a.tmps, defers := [] } W)
    (hbody : ∀ (l : Nat) (pre : List α) (x : α) (s : Nat) (W : World), w.heap.size ≤ l → (∃ r, W.heap[l]? = some (.loop r)) → I pre W → G pre x W → w.heap.size ≤ s → B x s W →
      body.wpIn (F.inRound l) (n - 1 - 1) P (roundEnds w.heap.size (Kp pre x) I Ix (pre ++ [x]) W) (a₁ x s) W)
    (hdone : ∀ (D : Nat) (xs : List α) (W : World), w.heap.size ≤ D → S xs W → I xs W → W.heap[D]? = some (.deferred (some [])) → Q .normal { a with defers := { target := .collected D, args := #[] } :: a.defers } W)
    (hstop : ∀ (D : Nat) (c : Code) (pre : List α) (W : World), w.heap.size ≤ D → Ix c pre W → W.heap[D]? = some (.deferred (some [])) → c.wpIn F n P Q { a with defers := { target := .collected D, args := #[] } :: a.defers } W) :
    (Code.rangeFunc g ps assign body).wpIn F n P Q a w :=
  wpIn_iter hro h1 hg hFg eg hseq hK hG hS hps I Ix hI hIx h0 (fun _ x a' W => ∃ s, w.heap.size ≤ s ∧ B x s W ∧ a' = a₁ x s) (fun _ x _ _ _ _ h hk => by obtain ⟨s, h1, h2, h3⟩ := h; exact ⟨s, h1, hB x s _ _ h2 hk, h3⟩)
    (fun l pre x W K hi _ hK => hassign l pre x W K hi (fun s W' he hs hb => hK _ _ he ⟨s, hs, hb, rfl⟩)) (fun l pre x a' W hl hr hi hg h => by obtain ⟨s, h1, h2, rfl⟩ := h; exact hbody l pre x s W hl hr hi hg h1 h2) hdone hstop

section
variable (n : Nat) (m : Nat → Int) (root page : Nat)
/-- A level's address, or why there is none. -/
def atF : Nat → Int × Int
  | 0 => (0, 0)
  | 1 => (8 * (wdN m root page 1 : Int), 0)
  | k + 2 => if (atF (k + 1)).2 = 0 then (if erN n m root page (k + 1) = 0 then (8 * (wdN m root page (k + 2) : Int), 0) else (0, erN n m root page (k + 1))) else atF (k + 1)
/-- The greatest level that there is. -/
def depF : Nat := if erN n m root page 1 = 0 then (if erN n m root page 2 = 0 then 3 else 2) else 1
end
section
variable {n : Nat} {m : Nat → Int} {root page level : Nat}
theorem step_yy (h1 : erN n m root page 1 = 0) (h2 : erN n m root page 2 = 0) : stepL n m root page = [(1, 8 * (wdN m root page 1 : Int), 0), (2, 8 * (wdN m root page 2 : Int), 0), (3, 8 * (wdN m root page 3 : Int), 0)] := by
  unfold stepL; rw [restL_yes (by decide) (by decide) h1, restL_yes (by decide) (by decide) h2]; rfl
theorem step_yn (h1 : erN n m root page 1 = 0) (h2 : ¬ erN n m root page 2 = 0) : stepL n m root page = [(1, 8 * (wdN m root page 1 : Int), 0), (2, 8 * (wdN m root page 2 : Int), 0), (3, 0, erN n m root page 2)] := by
  unfold stepL; rw [restL_yes (by decide) (by decide) h1, restL_no (by decide) (by decide) h2]
theorem step_n (h1 : ¬ erN n m root page 1 = 0) : stepL n m root page = [(1, 8 * (wdN m root page 1 : Int), 0), (2, 0, erN n m root page 1)] := by
  unfold stepL; rw [restL_no (by decide) (by decide) h1]
theorem atF_2 : atF n m root page 2 = if erN n m root page 1 = 0 then (8 * (wdN m root page 2 : Int), 0) else (0, erN n m root page 1) := rfl
theorem atF_3 : atF n m root page 3 = if erN n m root page 1 = 0 then (if erN n m root page 2 = 0 then (8 * (wdN m root page 3 : Int), 0) else (0, erN n m root page 2)) else (0, erN n m root page 1) := by
  show (if (atF n m root page 2).2 = 0 then _ else _) = _
  rw [atF_2]
  by_cases h : erN n m root page 1 = 0
  · simp only [if_pos h, if_true]
  · simp only [if_neg h]
theorem step_fst {i : Nat} {x : Nat × Int × Int} (hx : (stepL n m root page)[i]? = some x) : x.1 = i + 1 ∧ i < 3 := by
  by_cases h1 : erN n m root page 1 = 0
  · by_cases h2 : erN n m root page 2 = 0
    · rw [step_yy h1 h2] at hx
      match i, hx with
      | 0, hx => cases hx; exact ⟨rfl, by decide⟩
      | 1, hx => cases hx; exact ⟨rfl, by decide⟩
      | 2, hx => cases hx; exact ⟨rfl, by decide⟩
    · rw [step_yn h1 h2] at hx
      match i, hx with
      | 0, hx => cases hx; exact ⟨rfl, by decide⟩
      | 1, hx => cases hx; exact ⟨rfl, by decide⟩
      | 2, hx => cases hx; exact ⟨rfl, by decide⟩
  · rw [step_n h1] at hx
    match i, hx with
    | 0, hx => cases hx; exact ⟨rfl, by decide⟩
    | 1, hx => cases hx; exact ⟨rfl, by decide⟩
theorem step_stop {i : Nat} {x : Nat × Int × Int} (hx : (stepL n m root page)[i]? = some x) (hl : i + 1 ≤ level) (h3 : level ≤ 3) (hs : x.1 = level ∨ x.2.2 ≠ 0) : atF n m root page level = x.2 := by
  by_cases h1 : erN n m root page 1 = 0
  · by_cases h2 : erN n m root page 2 = 0
    · rw [step_yy h1 h2] at hx
      match i, hx with
      | 0, hx => cases hx; obtain rfl : 1 = level := hs.resolve_right (fun h => h rfl); rfl
      | 1, hx => cases hx; obtain rfl : 2 = level := hs.resolve_right (fun h => h rfl); rw [atF_2, if_pos h1]
      | 2, hx => cases hx; obtain rfl : 3 = level := hs.resolve_right (fun h => h rfl); rw [atF_3, if_pos h1, if_pos h2]
    · rw [step_yn h1 h2] at hx
      match i, hx with
      | 0, hx => cases hx; obtain rfl : 1 = level := hs.resolve_right (fun h => h rfl); rfl
      | 1, hx => cases hx; obtain rfl : 2 = level := hs.resolve_right (fun h => h rfl); rw [atF_2, if_pos h1]
      | 2, hx => cases hx; obtain rfl : level = 3 := by omega
                 rw [atF_3, if_pos h1, if_neg h2]
  · rw [step_n h1] at hx
    match i, hx with
    | 0, hx => cases hx; obtain rfl : 1 = level := hs.resolve_right (fun h => h rfl); rfl
    | 1, hx =>
      cases hx
      have : level = 2 ∨ level = 3 := by omega
      rcases this with rfl | rfl
      · rw [atF_2, if_neg h1]
      · rw [atF_3, if_neg h1]
theorem step_full (hz : ∀ (j : Nat) (y : Nat × Int × Int), (stepL n m root page)[j]? = some y → y.2.2 = 0) : (stepL n m root page).length = 3 := by
  by_cases h1 : erN n m root page 1 = 0
  · by_cases h2 : erN n m root page 2 = 0
    · rw [step_yy h1 h2]; rfl
    · rw [step_yn h1 h2] at hz
      exact absurd (hz 2 _ rfl) h2
  · rw [step_n h1] at hz
    exact absurd (hz 1 _ rfl) h1
end
theorem walk_w5 {w : World} {t0 t1 t2 t3 t4 : TypeId} (c0 c1 c2 c3 c4 : Array Value) : Blk (((((w.alloc (.cells c0 t0)).alloc (.cells c1 t1)).alloc (.cells c2 t2)).alloc (.cells c3 t3)).alloc (.cells c4 t4)) w.heap.size t0 c0 ∧ Blk (((((w.alloc (.cells c0 t0)).alloc (.cells c1 t1)).alloc (.cells c2 t2)).alloc (.cells c3 t3)).alloc (.cells c4 t4)) (w.heap.size + 1) t1 c1 ∧
    Blk (((((w.alloc (.cells c0 t0)).alloc (.cells c1 t1)).alloc (.cells c2 t2)).alloc (.cells c3 t3)).alloc (.cells c4 t4)) (w.heap.size + 1 + 1) t2 c2 ∧ Blk (((((w.alloc (.cells c0 t0)).alloc (.cells c1 t1)).alloc (.cells c2 t2)).alloc (.cells c3 t3)).alloc (.cells c4 t4)) (w.heap.size + 1 + 1 + 1) t3 c3 ∧
    Blk (((((w.alloc (.cells c0 t0)).alloc (.cells c1 t1)).alloc (.cells c2 t2)).alloc (.cells c3 t3)).alloc (.cells c4 t4)) (w.heap.size + 1 + 1 + 1 + 1) t4 c4 ∧ Below w.heap.size w (((((w.alloc (.cells c0 t0)).alloc (.cells c1 t1)).alloc (.cells c2 t2)).alloc (.cells c3 t3)).alloc (.cells c4 t4)) ∧
    (((((w.alloc (.cells c0 t0)).alloc (.cells c1 t1)).alloc (.cells c2 t2)).alloc (.cells c3 t3)).alloc (.cells c4 t4)).heap.size = w.heap.size + 5 := by
  have b0 := ((((Blk.new w t0 c0).alloc (.cells c1 t1)).alloc (.cells c2 t2)).alloc (.cells c3 t3)).alloc (.cells c4 t4)
  have b1 := (((Blk.new (w.alloc (.cells c0 t0)) t1 c1).alloc (.cells c2 t2)).alloc (.cells c3 t3)).alloc (.cells c4 t4)
  have b2 := ((Blk.new ((w.alloc (.cells c0 t0)).alloc (.cells c1 t1)) t2 c2).alloc (.cells c3 t3)).alloc (.cells c4 t4)
  have b3 := (Blk.new (((w.alloc (.cells c0 t0)).alloc (.cells c1 t1)).alloc (.cells c2 t2)) t3 c3).alloc (.cells c4 t4)
  have b4 := Blk.new ((((w.alloc (.cells c0 t0)).alloc (.cells c1 t1)).alloc (.cells c2 t2)).alloc (.cells c3 t3)) t4 c4
  have hb := (((((Below.refl _ w).alloc (Nat.le_refl _) (.cells c0 t0)).alloc (by simp) (.cells c1 t1)).alloc (by simp; omega) (.cells c2 t2)).alloc (by simp; omega) (.cells c3 t3)).alloc (by simp; omega) (.cells c4 t4)
  simp only [World.size_alloc] at b1 b2 b3 b4
  exact ⟨b0, b1, b2, b3, b4, hb, by simp⟩
end Go.Proofs.Ytlfenakabedmfaa
namespace Go.Proofs.Ytlfenakabedmfaa
open Go.RowKit Go.Shelf
attribute [local go_sem] Oper.semAt_some

theorem badV_ok {n root page level : Nat} (hr : root < n) (hp : page < 512) (h1 : 1 ≤ level) (h3 : level ≤ 3) : badV n root page level = 0 := by
  unfold badV
  rw [if_neg (by omega)]
structure AtI (w : World) (L Hl level : Nat) (n : Nat) (m : Nat → Int) (root page : Nat) (k : Nat) (W : World) : Prop where
  lt : k + 1 ≤ level
  zero : ∀ (j : Nat) (y : Nat × Int × Int), j < k → (stepL n m root page)[j]? = some y → y.2.2 = 0
  last : ∃ u v : Int, Blk W L 169 #[.int .u64 u, .int .i64 v]
  lev : Blk W Hl 3 #[.int .i64 (level : Int)]
  below : Below Hl w W
  size : Hl + 5 ≤ W.heap.size
set_option maxRecDepth 100000 in
set_option maxHeartbeats 2000000 in
theorem wat_in (g gf N cp : Nat) (m : Nat → Int) (root page level : Nat) (w : World) (hM : MemAt w g gf N cp m) (hr : root < N) (hp : page < 512) (h1 : 1 ≤ level) (h3 : level ≤ 3) :
    Calls Try.prog 53 #[.pointer (some ⟨g, 0, none⟩), .int .i64 (root : Int), .int .i64 (page : Int), .int .i64 (level : Int)] w fun e w' => e = .returned (.tuple #[.int .u64 (atF N m root page level).1, .int .i64 (atF N m root page level).2]) ∧ Below w.heap.size w w' := by
  have hbad := badV_ok hr hp h1 h3
  have hM0 := hM.on ((Below.refl _ w).alloc (Nat.le_refl _) (.cells #[.int .i64 (level : Int)] 3))
  have HM0 := hide hM0
  have hg1 := hM.hd.lt
  have hg2 := hM.ltf
  have HM := hide hM
  clear hM hM0
  refine calls_marks Try.func53 rfl ?_
  simp only [Try.ntmps53, List.size_toArray, List.length_cons, List.length_nil, Nat.reduceAdd, Nat.reduceSub, Array.replicate_succ, Array.replicate_zero, List.push_toArray, List.append_toArray, List.nil_append, List.cons_append]
  go_wp2
  go_step3
  go_wp2_with fail
  refine (bad_any g gf N cp m root page level _ HM0.out).mono ?_
  rintro e w2 ⟨rfl, rfl⟩
  rw [hbad]
  clear hbad
  go_wp2
  go_step3
  go_wp2_with fail
  refine (levels_any _ _ _ _).mono ?_
  rintro e w' ⟨rfl, rfl⟩
  go_wp2
  rename_i K hK
  obtain ⟨b0, b1, b2, b3, b4, hB, hz⟩ := walk_w5 (w := w) (t0 := 3) (t1 := 169) (t2 := 24) (t3 := 3) (t4 := 3) #[.int .i64 (level : Int)] #[.int .u64 0, .int .i64 0] #[.pointer (some ⟨g, 0, none⟩)] #[.int .i64 (root : Int)] #[.int .i64 (page : Int)]
  generalize ((((w.alloc (.cells #[.int .i64 (level : Int)] 3)).alloc (.cells #[.int .u64 0, .int .i64 0] 169)).alloc (.cells #[.pointer (some ⟨g, 0, none⟩)] 24)).alloc (.cells #[.int .i64 (root : Int)] 3)).alloc (.cells #[.int .i64 (page : Int)] 3) = W1 at *
  have hM1 := HM.out.on hB
  clear HM0
  generalize hH : w.heap.size = H at *
  have hH' : H ≤ w.heap.size := Nat.le_of_eq hH.symm
  have HH := hide hH
  clear hH
  refine (wpIn_wide (n := 10)).1 ?_
  refine' wpIn_iter2 (F := Fence.wide) rfl (by decide) (gf := 90) (lb := _) rfl trivial (enters_of Try.func90 (by kernel_rfl) rfl) (levels_iter Fence.wide 9 (wideF _) rfl (by omega) g gf N cp m root page _ _ _ W1 hM1 b3 b4 b2 hr hp (fun k => k = H + 1) (fun k hk => by have hk' : k = H + 1 := hk; omega))
    (fun pre x A B C D h1 h2 h3 => KeepC.skips h1 h2 h3) (fun _ _ _ _ h _ => h) (fun _ _ _ h _ => h) (fun _ => rfl)
    (fun pre W => AtI w (H + 1) H level N m root page pre.length W)
    (fun c _ W => c = .exit 0 ∧ Blk W (H + 1) 169 #[.int .u64 (atF N m root page level).1, .int .i64 (atF N m root page level).2] ∧ Below H w W)
    ?hI ?hIx ?h0 _ (fun x s W => Blk W s 169 #[.int .u64 x.2.1, .int .i64 x.2.2]) (fun x s A C h hk => hk.blk h) ?assign ?body ?done ?stop
  case assign =>
    intro l pre x W K hi hK
    have hs := hi.size
    have hK2 := hK W.heap.size (W.alloc (.cells #[.int .u64 x.2.1, .int .i64 x.2.2] 169)) (Ext.of_below ((Below.refl _ _).alloc (Nat.le_refl _) _)) (by omega) (Blk.new _ _ _)
    gi_wp2
    generalize W.heap.size = s at *
    exact hK2
  case hI => exact fun s A C h hk => ⟨h.lt, h.zero, by obtain ⟨u, v, hb⟩ := h.last; exact ⟨u, v, hk.blk hb⟩, hk.blk h.lev, below_skips h.below hk (by omega) hH', Nat.le_trans h.size hk.size⟩
  case hIx => exact fun c s A C h hk => ⟨h.1, hk.blk h.2.1, below_skips h.2.2 hk (by omega) hH'⟩
  case h0 => exact ⟨by show 0 + 1 ≤ level; omega, fun j y hj _ => absurd hj (Nat.not_lt_zero _), ⟨0, 0, b1⟩, b0, hB, by omega⟩
  case body =>
    rintro l pre x s W hl hr hI hG hs hBx
    clear b0 b1 b2 b3 b4 hM1 hB hK
    obtain ⟨a, u, c⟩ := x
    dsimp only at hBx
    obtain ⟨hx1, hx3⟩ := step_fst hG
    dsimp only at hx1
    obtain ⟨s0, s1⟩ := hBx.c2
    obtain ⟨u0, v0, hL⟩ := hI.last
    obtain ⟨l0, l1⟩ := hL.c2
    have z0 := hL.frozen 0
    have z1 := hL.frozen 1
    have v0' := hI.lev.cell 0
    have hlL := hL.lt
    have hls := hBx.lt
    have hne : s ≠ H + 1 := by omega
    have hne' : H + 1 ≠ s := by omega
    have hne2 : H ≠ H + 1 := by omega
    have hlH := hI.lev.lt
    have hm0 : Mod (fun k => k = H + 1) W W := Mod.refl _ W
    have hmod : Mod (fun k => k = H + 1) W ((W.setCell ⟨H + 1, 0, none⟩ (.int .u64 u)).setCell ⟨H + 1, 1, none⟩ (.int .i64 c)) := (hm0.setCell (p := ⟨H + 1, 0, none⟩) (.inl rfl) _).setCell (p := ⟨H + 1, 1, none⟩) (.inl rfl) _
    clear hm0
    have hLn : Blk ((W.setCell ⟨H + 1, 0, none⟩ (.int .u64 u)).setCell ⟨H + 1, 1, none⟩ (.int .i64 c)) (H + 1) 169 #[.int .u64 u, .int .i64 c] := by
      have := (hL.set_ 0 (.int .u64 u)).set_ 1 (.int .i64 c)
      simpa only [List.setIfInBounds_toArray, List.set_cons_zero, List.set_cons_succ] using this
    have hkf : KeepsFrom W1.heap.size W ((W.setCell ⟨H + 1, 0, none⟩ (.int .u64 u)).setCell ⟨H + 1, 1, none⟩ (.int .i64 c)) := (keeps_set (keeps_set (KeepsOthers.refl _))).from _
    have hbn : Below H w ((W.setCell ⟨H + 1, 0, none⟩ (.int .u64 u)).setCell ⟨H + 1, 1, none⟩ (.int .i64 c)) := (hI.below.setCell (p := ⟨H + 1, 0, none⟩) (by show H ≤ H + 1; omega) _).setCell (p := ⟨H + 1, 1, none⟩) (by show H ≤ H + 1; omega) _
    have hln : Blk ((W.setCell ⟨H + 1, 0, none⟩ (.int .u64 u)).setCell ⟨H + 1, 1, none⟩ (.int .i64 c)) H 3 #[.int .i64 (level : Int)] := hI.lev.mod hmod (by omega)
    have hst : a = level ∨ c ≠ 0 → atF N m root page level = (u, c) := fun h => step_stop hG hI.lt h3 h
    have hIn : ¬ (a = level) → c = 0 → AtI w (H + 1) H level N m root page (pre ++ [(a, u, c)]).length ((W.setCell ⟨H + 1, 0, none⟩ (.int .u64 u)).setCell ⟨H + 1, 1, none⟩ (.int .i64 c)) := fun ha hc => by
      have hle : (pre ++ [(a, u, c)]).length = pre.length + 1 := by rw [List.length_append]; rfl
      refine ⟨by have := hI.lt; omega, fun j y hj hy => ?_, ⟨u, c, hLn⟩, hln, hbn, by simpa [World.setCell] using hI.size⟩
      by_cases e : j = pre.length
      · rw [e, hG] at hy; cases hy; exact hc
      · exact hI.zero j y (by omega) hy
    have HIN := hide hIn
    have HST := hide hst
    have HMOD := hide hmod
    have HLN := hide hLn
    have HKF := hide hkf
    have HBN := hide hbn
    have Hr := hide hr
    have HZ := hide hz
    clear hIn hst hmod hLn hkf hbn hln hL hI hG hBx hr hx1 hx3 hz
    by_cases ha : a = level
    · have HAT := hide (HST.out (.inl ha))
      subst ha
      gi_wp2
      exact ⟨HKF.out, rfl, by rw [HAT.out]; exact HLN.out, HBN.out⟩
    · have d1 : ((a : Int) == (level : Int)) = false := beq_eq_false_iff_ne.2 (by omega)
      by_cases hc : c = 0
      · have HA := hide (HIN.out ha hc)
        have HC := hide hc
        subst hc
        clear ha
        gi_wp2
        exact ⟨HKF.out, KeepC.of_mod HMOD.out, HA.out⟩
      · have d3 : (c == 0) = false := by simpa using hc
        have HAT := hide (HST.out (.inr hc))
        clear ha
        gi_wp2
        exact ⟨HKF.out, rfl, by rw [HAT.out]; exact HLN.out, HBN.out⟩
  case done =>
    rintro D xs W hD hlen hI hd
    have h5 := step_full (n := N) (m := m) (root := root) (page := page) (fun j y hy => hI.zero j y (by rw [hlen]; exact (List.getElem?_eq_some_iff.1 hy).1) hy)
    have := hI.lt
    omega
  case stop =>
    rintro D c pre W hD ⟨rfl, hL, hBW⟩ hd
    clear b0 b1 b2 b3 b4 hM1 hB
    obtain ⟨A, hA⟩ : ∃ A, atF N m root page level = A := ⟨_, rfl⟩
    rw [hA] at hL
    have HA := hide hA
    obtain ⟨l0, l1⟩ := hL.c2
    have hlL := hL.lt
    have Hd := hide hd
    have HBW := hide hBW
    clear hL hd hBW hA
    refine (wpIn_wide (n := 10)).2 ?_
    go_wp2
    go_quiet (fail)
    rename_i nq
    go_wp2
    rw [Exit.noGoto_ret]
    have hdD : (W.drewN nq).heap[D]? = some (.deferred (some [])) := Hd.out
    have sk := Skips.putObj (B := H + 1 + 1) hdD rfl (by omega) (.deferred none)
    refine marks_ret1 (v := .tuple #[.int .u64 A.1, .int .i64 A.2]) rfl hdD (by simp [results, Try.f53, go_sem]) ⟨by rw [HA.out], ?_⟩
    rw [HH.out]
    exact below_skips (below_drewN HBW.out nq) sk (by omega) hH'
end Go.Proofs.Ytlfenakabedmfaa
namespace Go.Proofs.Ytlfenakabedmfaa
open Go.RowKit Go.Shelf
attribute [local go_sem] Oper.semAt_some

theorem badV_no {n : Nat} {root page level : Int} (h : badV n root page level = 0) : ∃ r p l : Nat, root = r ∧ page = p ∧ level = l ∧ r < n ∧ p < 512 ∧ 1 ≤ l ∧ l ≤ 3 := by
  unfold badV at h
  by_cases hc : root < 0 ∨ (n : Int) ≤ root ∨ page < 0 ∨ 512 ≤ page ∨ level < 1 ∨ 3 < level
  · rw [if_pos hc] at h; exact absurd h (by decide)
  · exact ⟨root.toNat, page.toNat, level.toNat, by omega, by omega, by omega, by omega, by omega, by omega, by omega⟩
theorem badV_yes {n : Nat} {root page level : Int} (h : ¬ badV n root page level = 0) : badV n root page level = 3 := by
  unfold badV at h ⊢
  by_cases hc : root < 0 ∨ (n : Int) ≤ root ∨ page < 0 ∨ 512 ≤ page ∨ level < 1 ∨ 3 < level
  · rw [if_pos hc]
  · rw [if_neg hc] at h; exact absurd rfl h
def atV (n : Nat) (m : Nat → Int) (root page level : Int) : Int × Int := if badV n root page level = 0 then atF n m root.toNat page.toNat level.toNat else (0, badV n root page level)
set_option maxHeartbeats 1000000 in
theorem wat_bad (g gf N cp : Nat) (m : Nat → Int) (root page level : Int) (w : World) (hM : MemAt w g gf N cp m) (hb : badV N root page level = 3) :
    Calls Try.prog 53 #[.pointer (some ⟨g, 0, none⟩), .int .i64 root, .int .i64 page, .int .i64 level] w fun e w' => e = .returned (.tuple #[.int .u64 0, .int .i64 3]) ∧ Below w.heap.size w w' := by
  have hM0 := hM.on ((Below.refl _ w).alloc (Nat.le_refl _) (.cells #[.int .i64 level] 3))
  have HM0 := hide hM0
  have HB := hide hb
  clear hM hM0 hb
  refine calls_marks Try.func53 rfl ?_
  simp only [Try.ntmps53, List.size_toArray, List.length_cons, List.length_nil, Nat.reduceAdd, Nat.reduceSub, Array.replicate_succ, Array.replicate_zero, List.push_toArray, List.append_toArray, List.nil_append, List.cons_append]
  go_wp2
  go_step3
  go_wp2_with fail
  refine (bad_any g gf N cp m root page level _ HM0.out).mono ?_
  rintro e w2 ⟨rfl, rfl⟩
  rw [HB.out]
  go_wp2
  rw [Exit.noGoto_ret]
  refine marks_ret (v := .tuple #[.int .u64 0, .int .i64 3]) rfl (by simp [results, Try.f53, go_sem]) ⟨rfl, (Below.refl _ _).alloc (Nat.le_refl _) _⟩
set_option maxHeartbeats 1000000 in
theorem wat_nil (root page level : Int) (w : World) :
    Calls Try.prog 53 #[.pointer none, .int .i64 root, .int .i64 page, .int .i64 level] w fun e w' => e = .returned (.tuple #[.int .u64 0, .int .i64 1]) ∧ Below w.heap.size w w' := by
  refine calls_marks Try.func53 rfl ?_
  simp only [Try.ntmps53, List.size_toArray, List.length_cons, List.length_nil, Nat.reduceAdd, Nat.reduceSub, Array.replicate_succ, Array.replicate_zero, List.push_toArray, List.append_toArray, List.nil_append, List.cons_append]
  go_wp2
  go_step3
  go_wp2_with fail
  refine (bad_nil root page level _).mono ?_
  rintro e w2 ⟨rfl, rfl⟩
  go_wp2
  rw [Exit.noGoto_ret]
  refine marks_ret (v := .tuple #[.int .u64 0, .int .i64 1]) rfl (by simp [results, Try.f53, go_sem]) ⟨rfl, (Below.refl _ _).alloc (Nat.le_refl _) _⟩
theorem wat_any (g gf N cp : Nat) (m : Nat → Int) (root page level : Int) (w : World) (hM : MemAt w g gf N cp m) :
    Calls Try.prog 53 #[.pointer (some ⟨g, 0, none⟩), .int .i64 root, .int .i64 page, .int .i64 level] w fun e w' => e = .returned (.tuple #[.int .u64 (atV N m root page level).1, .int .i64 (atV N m root page level).2]) ∧ Below w.heap.size w w' := by
  unfold atV
  by_cases hb : badV N root page level = 0
  · rw [if_pos hb]
    obtain ⟨r, p, l, rfl, rfl, rfl, h1, h2, h3, h4⟩ := badV_no hb
    exact wat_in g gf N cp m r p l w hM h1 h2 h3 h4
  · rw [if_neg hb, badV_yes hb]
    exact wat_bad g gf N cp m root page level w hM (badV_yes hb)
/-! Walk. -/
theorem fr_lt {n : Nat} {m : Nat → Int} {root page : Nat} (hr : root < n) : (frN m root page 1 < n) ∧ (erN n m root page 1 = 0 → frN m root page 2 < n) ∧ (erN n m root page 2 = 0 → frN m root page 3 < n) :=
  ⟨hr, fun h => (frN_succ (by decide) h).2, fun h => (frN_succ (by decide) h).2⟩
theorem atF_ok {n : Nat} {m : Nat → Int} {root page level : Nat} (hr : root < n) (hp : page < 512) (h1 : 1 ≤ level) (h3 : level ≤ 3) (h : (atF n m root page level).2 = 0) : (atF n m root page level).1 = 8 * (wdN m root page level : Int) ∧ wdN m root page level < 8 * n := by
  obtain ⟨f1, f2, f3⟩ := fr_lt (m := m) (page := page) hr
  have hx := ixN_lt level hp
  have : level = 1 ∨ level = 2 ∨ level = 3 := by omega
  rcases this with rfl | rfl | rfl
  · exact ⟨rfl, by unfold wdN; omega⟩
  · rw [atF_2] at h ⊢
    by_cases e : erN n m root page 1 = 0
    · rw [if_pos e]
      have := f2 e
      exact ⟨rfl, by unfold wdN; omega⟩
    · rw [if_neg e] at h; exact absurd h e
  · rw [atF_3] at h ⊢
    by_cases e : erN n m root page 1 = 0
    · rw [if_pos e] at h ⊢
      by_cases e2 : erN n m root page 2 = 0
      · rw [if_pos e2]
        have := f3 e2
        exact ⟨rfl, by unfold wdN; omega⟩
      · rw [if_neg e2] at h; exact absurd h e2
    · rw [if_neg e] at h; exact absurd h e
theorem atV_ok {n : Nat} {m : Nat → Int} {root page level : Int} (h : (atV n m root page level).2 = 0) : ∃ j : Nat, (atV n m root page level).1 = 8 * (j : Int) ∧ j < 8 * n := by
  unfold atV at h ⊢
  by_cases hb : badV n root page level = 0
  · rw [if_pos hb] at h ⊢
    obtain ⟨r, p, l, rfl, rfl, rfl, h1, h2, h3, h4⟩ := badV_no hb
    exact ⟨_, atF_ok h1 h2 h3 h4 h⟩
  · rw [if_neg hb] at h; exact absurd h hb
def wlkE (n : Nat) (m : Nat → Int) (root page : Int) : Int := if (atV n m root page 3).2 = 0 then entE n (m ((atV n m root page 3).1 / 8).toNat) true else (atV n m root page 3).2
def wlkC (n : Nat) (m : Nat → Int) (root page : Int) : Array Value := if (atV n m root page 3).2 = 0 then entC n (m ((atV n m root page 3).1 / 8).toNat) true else #[.bool false, .bool false, .bool false, .bool false, .int .i64 0]
theorem entC_lit (n : Nat) (x : Int) (lf : Bool) : ∃ (a b c d : Bool) (f : Int), entC n x lf = #[.bool a, .bool b, .bool c, .bool d, .int .i64 f] := by
  unfold entC
  split
  · exact ⟨_, _, _, _, _, rfl⟩
  · exact ⟨_, _, _, _, _, rfl⟩
set_option maxRecDepth 100000 in
set_option maxHeartbeats 1000000 in
theorem wwalk_any (g gf N cp : Nat) (m : Nat → Int) (root page : Int) (w : World) (hM : MemAt w g gf N cp m) :
    Calls Try.prog 24 #[.pointer (some ⟨g, 0, none⟩), .int .i64 root, .int .i64 page] w fun e w' => e = .returned (.tuple #[.agg (wlkC N m root page), .int .i64 (wlkE N m root page)]) ∧ Below w.heap.size w w' := by
  obtain ⟨C, hC⟩ : ∃ C, wlkC N m root page = C := ⟨_, rfl⟩
  obtain ⟨E, hE⟩ : ∃ E, wlkE N m root page = E := ⟨_, rfl⟩
  rw [hC, hE]
  have HC := hide hC
  have HE := hide hE
  have hM0 := hM.on (((Below.refl _ w).alloc (Nat.le_refl _) (.cells #[.bool false, .bool false, .bool false, .bool false, .int .i64 0] 50)))
  clear hC hE hM
  go_enter Try.func24, Try.ntmps24
  go_upto_region 1 with fail
  have hk := Blk.new w 50 #[.bool false, .bool false, .bool false, .bool false, .int .i64 0]
  have hB : Below w.heap.size w (w.alloc (.cells #[.bool false, .bool false, .bool false, .bool false, .int .i64 0] 50)) := (Below.refl _ w).alloc (Nat.le_refl _) _
  generalize w.alloc (.cells #[.bool false, .bool false, .bool false, .bool false, .int .i64 0] 50) = W at *
  generalize hH : w.heap.size = H at *
  have HH := hide hH
  clear hH
  have HM := hide hM0
  clear hM0
  go_wp2_with fail
  refine (wat_any g gf N cp m root page 3 _ HM.out).mono ?_
  rintro e w2 ⟨rfl, hb2⟩
  have hM2 := HM.out.on hb2
  replace hB := hB.trans (hb2.mono (Nat.le_of_lt hk.lt))
  replace hk := blk_below hk hb2
  clear hb2 HM
  by_cases h0 : (atV N m root page 3).2 = 0
  · obtain ⟨j, hj1, hj2⟩ := atV_ok h0
    rw [h0, hj1]
    have hC2 : Hid (C = entC N (m j) true) := hide (by rw [← HC.out]; unfold wlkC; rw [if_pos h0, hj1]; rw [show (8 * (j : Int) / 8).toNat = j by omega])
    have hE2 : Hid (E = entE N (m j) true) := hide (by rw [← HE.out]; unfold wlkE; rw [if_pos h0, hj1]; rw [show (8 * (j : Int) / 8).toNat = j by omega])
    clear HC HE h0 hj1
    have HM := hide hM2
    clear hM2
    go_wp2_with fail
    refine (entry_any g gf N cp m j true _ HM.out hj2).mono ?_
    rintro e w3 ⟨rfl, hb3⟩
    obtain ⟨a, b, c, d, f, hL⟩ := entC_lit N (m j) true
    have hC3 : Hid (C = #[.bool a, .bool b, .bool c, .bool d, .int .i64 f]) := hide (by rw [hC2.out, hL])
    rw [hL]
    replace hB := hB.trans (hb3.mono (Nat.le_of_lt hk.lt))
    replace hk := blk_below hk hb3
    clear hb3 hL hC2
    obtain ⟨e0, e1, e2, e3, e4⟩ := hk.c5
    obtain ⟨f0, f1, f2, f3, f4⟩ := hk.f5
    have hl3 := hk.lt
    go_wp2
    refine bodyPost_ret (results_cell_tmp rfl _ _ H 50 _ (0, 0) _ rfl (hk.set5 _ _ _ _ _) Try.underlying50 rfl (by kernel_rfl)) rfl ⟨by rw [hC3.out, hE2.out]; rfl, ?_⟩
    rw [HH.out]
    exact below_set5 hB (Nat.le_refl _) _ _ _ _ _
  · have hC2 : Hid (C = #[.bool false, .bool false, .bool false, .bool false, .int .i64 0]) := hide (by rw [← HC.out]; unfold wlkC; rw [if_neg h0])
    have hE2 : Hid (E = (atV N m root page 3).2) := hide (by rw [← HE.out]; unfold wlkE; rw [if_neg h0])
    generalize (atV N m root page 3).2 = c at *
    generalize (atV N m root page 3).1 = ad at *
    have d : (c == 0) = false := by simpa using h0
    clear HC HE hM2
    obtain ⟨e0, e1, e2, e3, e4⟩ := hk.c5
    obtain ⟨f0, f1, f2, f3, f4⟩ := hk.f5
    have hl3 := hk.lt
    go_wp2
    refine bodyPost_ret (results_cell_tmp rfl _ _ H 50 _ (0, 0) _ rfl (hk.set5 _ _ _ _ _) Try.underlying50 rfl (by kernel_rfl)) rfl ⟨by rw [hC2.out, hE2.out]; rfl, ?_⟩
    rw [HH.out]
    exact below_set5 hB (Nat.le_refl _) _ _ _ _ _
end Go.Proofs.Ytlfenakabedmfaa
namespace Go.Proofs.Ytlfenakabedmfaa
open Go.RowKit Go.Shelf
attribute [local go_sem] Oper.semAt_some

def okN (l : List (Nat × Int × Int)) (k : Nat) : Nat := ((l.take k).filter fun x => x.2.2 == 0).length
def depV (n : Nat) (m : Nat → Int) (root page : Int) : Int := if badV n root page 1 = 0 then (depF n m root.toNat page.toNat : Int) else 0
section
variable {n : Nat} {m : Nat → Int} {root page : Nat}
theorem ok_step {k : Nat} {x : Nat × Int × Int} (hx : (stepL n m root page)[k]? = some x) : okN (stepL n m root page) (k + 1) = okN (stepL n m root page) k + (if x.2.2 = 0 then 1 else 0) := by
  have hk := (List.getElem?_eq_some_iff.1 hx).1
  unfold okN
  rw [List.take_add_one, hx, List.filter_append, List.length_append]
  by_cases h : x.2.2 = 0
  · simp [h]
  · simp [h]
theorem ok_lev {k : Nat} {x : Nat × Int × Int} (hx : (stepL n m root page)[k]? = some x) : okN (stepL n m root page) k = k := by
  by_cases h1 : erN n m root page 1 = 0
  · by_cases h2 : erN n m root page 2 = 0
    · rw [step_yy h1 h2] at hx ⊢
      match k, hx with
      | 0, _ => rfl
      | 1, _ => rfl
      | 2, _ => rfl
    · rw [step_yn h1 h2] at hx ⊢
      match k, hx with
      | 0, _ => rfl
      | 1, _ => rfl
      | 2, _ => rfl
  · rw [step_n h1] at hx ⊢
    match k, hx with
    | 0, _ => rfl
    | 1, _ => rfl
theorem ok_all : okN (stepL n m root page) (stepL n m root page).length = depF n m root page := by
  unfold depF
  by_cases h1 : erN n m root page 1 = 0
  · rw [if_pos h1]
    by_cases h2 : erN n m root page 2 = 0
    · rw [if_pos h2, step_yy h1 h2]; rfl
    · rw [if_neg h2, step_yn h1 h2]
      simp [okN, h2]
  · rw [if_neg h1, step_n h1]
    simp [okN, h1]
end
structure DepI (w : World) (H : Nat) (n : Nat) (m : Nat → Int) (root page : Nat) (k : Nat) (W : World) : Prop where
  dep : Blk W H 3 #[.int .i64 (okN (stepL n m root page) k : Int)]
  below : Below H w W
  size : H + 4 ≤ W.heap.size
theorem walk_w4 {w : World} {t0 t1 t2 t3 : TypeId} (c0 c1 c2 c3 : Array Value) : Blk ((((w.alloc (.cells c0 t0)).alloc (.cells c1 t1)).alloc (.cells c2 t2)).alloc (.cells c3 t3)) w.heap.size t0 c0 ∧ Blk ((((w.alloc (.cells c0 t0)).alloc (.cells c1 t1)).alloc (.cells c2 t2)).alloc (.cells c3 t3)) (w.heap.size + 1) t1 c1 ∧
    Blk ((((w.alloc (.cells c0 t0)).alloc (.cells c1 t1)).alloc (.cells c2 t2)).alloc (.cells c3 t3)) (w.heap.size + 1 + 1) t2 c2 ∧ Blk ((((w.alloc (.cells c0 t0)).alloc (.cells c1 t1)).alloc (.cells c2 t2)).alloc (.cells c3 t3)) (w.heap.size + 1 + 1 + 1) t3 c3 ∧ Below w.heap.size w ((((w.alloc (.cells c0 t0)).alloc (.cells c1 t1)).alloc (.cells c2 t2)).alloc (.cells c3 t3)) ∧
    ((((w.alloc (.cells c0 t0)).alloc (.cells c1 t1)).alloc (.cells c2 t2)).alloc (.cells c3 t3)).heap.size = w.heap.size + 4 := by
  have b0 := (((Blk.new w t0 c0).alloc (.cells c1 t1)).alloc (.cells c2 t2)).alloc (.cells c3 t3)
  have b1 := ((Blk.new (w.alloc (.cells c0 t0)) t1 c1).alloc (.cells c2 t2)).alloc (.cells c3 t3)
  have b2 := (Blk.new ((w.alloc (.cells c0 t0)).alloc (.cells c1 t1)) t2 c2).alloc (.cells c3 t3)
  have b3 := Blk.new (((w.alloc (.cells c0 t0)).alloc (.cells c1 t1)).alloc (.cells c2 t2)) t3 c3
  have hb := ((((Below.refl _ w).alloc (Nat.le_refl _) (.cells c0 t0)).alloc (by simp) (.cells c1 t1)).alloc (by simp; omega) (.cells c2 t2)).alloc (by simp; omega) (.cells c3 t3)
  simp only [World.size_alloc] at b1 b2 b3
  exact ⟨b0, b1, b2, b3, hb, by simp⟩
end Go.Proofs.Ytlfenakabedmfaa
