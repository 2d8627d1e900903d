/- The walks of chapter 5's own answer: Walk, Depth. -/
import Derived.Test.YtlfenakabedmfaaRef5
namespace Go.Proofs.Ytlfenakabedmfaa
open Go.RowKit Go.Shelf
theorem dec_entT (n : Nat) {x : Int} {a b c d : Bool} {f E : Int} (hA : decA x = .agg #[.bool a, .bool b, .bool c, .bool d, .int .i64 f]) (hE : decE x = E) :
    entE n x true = (if E ≠ 0 then 5 else if a = false then 6 else if b = false ∨ (n : Int) ≤ f then 5 else 0) ∧ (E = 0 → #[.bool (bitB x 0), .bool (bitB x 1), .bool (bitB x 2), .bool (bitB x 3), .int .i64 (x / 256 % 64)] = #[Value.bool a, .bool b, .bool c, .bool d, .int .i64 f]) := by
  unfold decA at hA
  unfold decE at hE
  unfold entE
  cases h : decOk x with
  | false =>
    rw [h] at hE
    simp at hE
    subst hE
    exact ⟨rfl, fun h => absurd h (by decide)⟩
  | true =>
    rw [h] at hA hE
    simp at hA hE
    obtain ⟨rfl, rfl, rfl, rfl, rfl⟩ := hA
    subst hE
    refine ⟨?_, fun _ => rfl⟩
    simp
set_option maxRecDepth 100000 in
set_option maxHeartbeats 4000000 in
theorem rwalk_any (g gf N cp : Nat) (m : Nat → Int) (root page : Int) (w : World) (hM : RefAt w g gf N cp m) :
    Calls Try.prog 84 #[.pointer (some ⟨g, 0, none⟩), .int .i64 root, .int .i64 page] w fun e w' => e = .returned (.tuple #[.agg (wlkC N m root page), .int .i64 (wlkE N m root page)]) ∧ Below w.heap.size w w' := by
  obtain ⟨C, hC⟩ : ∃ C, wlkC N m root page = C := ⟨_, rfl⟩
  obtain ⟨E, hE⟩ : ∃ E, wlkE N m root page = E := ⟨_, rfl⟩
  rw [hC, hE]
  have HC := hide hC
  have HE := hide hE
  have hn := hM.le
  have hM0 := hM.on (((Below.refl _ w).alloc (Nat.le_refl _) (.cells #[.bool false, .bool false, .bool false, .bool false, .int .i64 0] 50)))
  clear hC hE hM
  go_enter Try.func84, Try.ntmps84
  go_upto_region 1 with fail
  have hk := Blk.new w 50 #[.bool false, .bool false, .bool false, .bool false, .int .i64 0]
  have hB : Below w.heap.size w (w.alloc (.cells #[.bool false, .bool false, .bool false, .bool false, .int .i64 0] 50)) := (Below.refl _ w).alloc (Nat.le_refl _) _
  generalize w.alloc (.cells #[.bool false, .bool false, .bool false, .bool false, .int .i64 0] 50) = W at *
  generalize hH : w.heap.size = H at *
  have HH := hide hH
  clear hH
  have HM := hide hM0
  clear hM0
  go_wp2_with fail
  refine (rat_any g gf N cp m root page 3 _ HM.out).mono ?_
  rintro e w1 ⟨rfl, hb1⟩
  have HM1 := hide (HM.out.on hb1)
  replace hB := hB.trans (hb1.mono (Nat.le_of_lt hk.lt))
  replace hk := blk_below hk hb1
  have hlt := hk.lt
  clear hb1 HM
  by_cases h0 : (atV N m root page 3).2 = 0
  · obtain ⟨j, hj1, hj2⟩ := atV_ok h0
    have hE1 : entE N (m j) true = E := by rw [← HE.out]; unfold wlkE; rw [if_pos h0, hj1, show (8 * (j : Int) / 8).toNat = j by omega]
    have hC1 : entC N (m j) true = C := by rw [← HC.out]; unfold wlkC; rw [if_pos h0, hj1, show (8 * (j : Int) / 8).toNat = j by omega]
    have HE1 := hide hE1
    have HC1 := hide hC1
    rw [h0, hj1]
    have hx := HM1.out.word j
    have hcj := HM1.out.cell j hj2
    clear h0 hj1 hE1 hC1 HE HC
    generalize m j = x at *
    obtain ⟨a5, b5, c5, d5, f5, hA⟩ := decA_lit x
    obtain ⟨D, hD⟩ : ∃ D, decE x = D := ⟨_, rfl⟩
    have HA := hide hA
    have HD5 := hide hD
    have HDE := hide (dec_entT N hA hD)
    have c0 : w1.cell? ⟨g, 0, none⟩ = some (.slice (some ⟨gf, 0, none⟩) (8 * N) cp) := HM1.out.hd.cell 0
    have HX := hide hx
    clear hA hD hx
    have hj3 : (j : Int) < 8 * (N : Int) := by omega
    go_wp2_with fail
    refine (rdec_any x HX.out.1 HX.out.2 _).mono ?_
    rintro e w2 ⟨rfl, hb2⟩
    rw [HA.out, HD5.out]
    have hM2 := HM1.out.on hb2
    replace hB := hB.trans (hb2.mono (by omega))
    replace hk := blk_below hk hb2
    have hl5 := hk.lt
    replace hk := hk.alloc (.cells #[.bool a5, .bool b5, .bool c5, .bool d5, .int .i64 f5] 50)
    have hl2 : H ≤ w2.heap.size := by omega
    replace hB := hB.alloc hl2 (.cells #[.bool a5, .bool b5, .bool c5, .bool d5, .int .i64 f5] 50)
    have hkx := Blk.new w2 50 #[.bool a5, .bool b5, .bool c5, .bool d5, .int .i64 f5]
    have HM3 := hide (hM2.on ((Below.refl _ w2).alloc (Nat.le_refl _) (.cells #[.bool a5, .bool b5, .bool c5, .bool d5, .int .i64 f5] 50)))
    clear hM2 hb2 HM1 c0 hcj hlt hj2 hj3
    go_upto_region 5 with fail
    generalize w2.alloc (.cells #[.bool a5, .bool b5, .bool c5, .bool d5, .int .i64 f5] 50) = W3 at *
    generalize w2.heap.size = G at *
    have hne : H ≠ G := by omega
    by_cases hD0 : D = 0
    · subst hD0
      cases a5 with
      | false =>
        have hE2 : Hid (E = 6 ∧ C = #[.bool false, .bool false, .bool false, .bool false, .int .i64 0]) := hide (by
          have e5 : entE N x true = 6 := by rw [HDE.out.1]; rfl
          refine ⟨by rw [← HE1.out, e5], by rw [← HC1.out]; unfold entC; rw [e5]; rfl⟩)
        clear HDE HE1 HC1
        obtain ⟨d0, d1, d2, d3, d4⟩ := hkx.c5
        go_quiet (fail)
        rename_i nq
        replace hk := blk_below hk (below_drewN (Below.refl _ W3) nq)
        replace hkx := blk_below hkx (below_drewN (Below.refl _ W3) nq)
        replace hB := below_drewN hB nq
        clear d0 d1 d2 d3 d4
        generalize W3.drewN nq = W4 at *
        obtain ⟨d0, d1, d2, d3, d4⟩ := hkx.c5
        obtain ⟨e0, e1, e2, e3, e4⟩ := hk.c5
        obtain ⟨f0, f1, f2, f3, f4⟩ := hk.f5
        go_wp2
        refine bodyPost_ret (results_cell_tmp rfl _ _ H 50 _ (0, 0) _ rfl (hk.set5 _ _ _ _ _) Try.underlying50 rfl (by kernel_rfl)) rfl ⟨by rw [hE2.out.1, hE2.out.2]; rfl, ?_⟩
        rw [HH.out]
        exact below_set5 hB (Nat.le_refl _) _ _ _ _ _
      | true =>
        cases b5 with
        | false =>
          have hE2 : Hid (E = 5 ∧ C = #[.bool false, .bool false, .bool false, .bool false, .int .i64 0]) := hide (by
            have e5 : entE N x true = 5 := by rw [HDE.out.1]; simp
            refine ⟨by rw [← HE1.out, e5], by rw [← HC1.out]; unfold entC; rw [e5]; rfl⟩)
          clear HDE HE1 HC1
          obtain ⟨d0, d1, d2, d3, d4⟩ := hkx.c5
          go_quiet (fail)
          rename_i nq
          replace hk := blk_below hk (below_drewN (Below.refl _ W3) nq)
          replace hkx := blk_below hkx (below_drewN (Below.refl _ W3) nq)
          replace hB := below_drewN hB nq
          clear d0 d1 d2 d3 d4
          generalize W3.drewN nq = W4 at *
          obtain ⟨d0, d1, d2, d3, d4⟩ := hkx.c5
          obtain ⟨e0, e1, e2, e3, e4⟩ := hk.c5
          obtain ⟨f0, f1, f2, f3, f4⟩ := hk.f5
          go_wp2
          refine bodyPost_ret (results_cell_tmp rfl _ _ H 50 _ (0, 0) _ rfl (hk.set5 _ _ _ _ _) Try.underlying50 rfl (by kernel_rfl)) rfl ⟨by rw [hE2.out.1, hE2.out.2]; rfl, ?_⟩
          rw [HH.out]
          exact below_set5 hB (Nat.le_refl _) _ _ _ _ _
        | true =>
          by_cases hN : (N : Int) ≤ f5
          · skip
            have hE2 : Hid (E = 5 ∧ C = #[.bool false, .bool false, .bool false, .bool false, .int .i64 0]) := hide (by
              have e5 : entE N x true = 5 := by rw [HDE.out.1]; simp [hN]
              refine ⟨by rw [← HE1.out, e5], by rw [← HC1.out]; unfold entC; rw [e5]; rfl⟩)
            clear HDE HE1 HC1
            obtain ⟨d0, d1, d2, d3, d4⟩ := hkx.c5
            go_quiet ((go_at_call 68; exact Calls.quiet_of_same ((rframes_any g gf N cp m _ (HM3.out.on (below_drewN (Below.refl _ _) _))).mono fun _ _ h => ⟨h.1, h.2.symm⟩)))
            rename_i nq
            replace hk := blk_below hk (below_drewN (Below.refl _ W3) nq)
            replace hkx := blk_below hkx (below_drewN (Below.refl _ W3) nq)
            replace hB := below_drewN hB nq
            clear d0 d1 d2 d3 d4
            generalize W3.drewN nq = W4 at *
            obtain ⟨d0, d1, d2, d3, d4⟩ := hkx.c5
            obtain ⟨e0, e1, e2, e3, e4⟩ := hk.c5
            obtain ⟨f0, f1, f2, f3, f4⟩ := hk.f5
            go_wp2
            refine bodyPost_ret (results_cell_tmp rfl _ _ H 50 _ (0, 0) _ rfl (hk.set5 _ _ _ _ _) Try.underlying50 rfl (by kernel_rfl)) rfl ⟨by rw [hE2.out.1, hE2.out.2]; rfl, ?_⟩
            rw [HH.out]
            exact below_set5 hB (Nat.le_refl _) _ _ _ _ _
          · skip
            have hE2 : Hid (E = 0 ∧ C = #[.bool true, .bool true, .bool c5, .bool d5, .int .i64 f5]) := hide (by
              have e5 : entE N x true = 0 := by rw [HDE.out.1]; simp [hN]
              refine ⟨by rw [← HE1.out, e5], by rw [← HC1.out]; unfold entC; rw [if_pos e5]; exact HDE.out.2 rfl⟩)
            clear HDE HE1 HC1
            obtain ⟨d0, d1, d2, d3, d4⟩ := hkx.c5
            go_quiet ((go_at_call 68; exact Calls.quiet_of_same ((rframes_any g gf N cp m _ (HM3.out.on (below_drewN (Below.refl _ _) _))).mono fun _ _ h => ⟨h.1, h.2.symm⟩)))
            rename_i nq
            replace hk := blk_below hk (below_drewN (Below.refl _ W3) nq)
            replace hkx := blk_below hkx (below_drewN (Below.refl _ W3) nq)
            replace hB := below_drewN hB nq
            clear d0 d1 d2 d3 d4
            generalize W3.drewN nq = W4 at *
            obtain ⟨d0, d1, d2, d3, d4⟩ := hkx.c5
            obtain ⟨e0, e1, e2, e3, e4⟩ := hk.c5
            obtain ⟨f0, f1, f2, f3, f4⟩ := hk.f5
            go_wp2
            refine bodyPost_ret (results_cell_tmp rfl _ _ H 50 _ (0, 0) _ rfl (hk.set5 _ _ _ _ _) Try.underlying50 rfl (by kernel_rfl)) rfl ⟨by rw [hE2.out.1, hE2.out.2]; rfl, ?_⟩
            rw [HH.out]
            exact below_set5 hB (Nat.le_refl _) _ _ _ _ _
    · have t : (D != 0) = true := bne_iff_ne.2 hD0
      have hE2 : Hid (E = 5 ∧ C = #[.bool false, .bool false, .bool false, .bool false, .int .i64 0]) := hide (by
        have e5 : entE N x true = 5 := by rw [HDE.out.1]; exact if_pos hD0
        refine ⟨by rw [← HE1.out, e5], by rw [← HC1.out]; unfold entC; rw [e5]; rfl⟩)
      clear HDE HE1 HC1
      obtain ⟨d0, d1, d2, d3, d4⟩ := hkx.c5
      go_quiet (fail)
      rename_i nq
      replace hk := blk_below hk (below_drewN (Below.refl _ W3) nq)
      replace hkx := blk_below hkx (below_drewN (Below.refl _ W3) nq)
      replace hB := below_drewN hB nq
      clear d0 d1 d2 d3 d4
      generalize W3.drewN nq = W4 at *
      obtain ⟨d0, d1, d2, d3, d4⟩ := hkx.c5
      obtain ⟨e0, e1, e2, e3, e4⟩ := hk.c5
      obtain ⟨f0, f1, f2, f3, f4⟩ := hk.f5
      go_wp2
      refine bodyPost_ret (results_cell_tmp rfl _ _ H 50 _ (0, 0) _ rfl (hk.set5 _ _ _ _ _) Try.underlying50 rfl (by kernel_rfl)) rfl ⟨by rw [hE2.out.1, hE2.out.2]; rfl, ?_⟩
      rw [HH.out]
      exact below_set5 hB (Nat.le_refl _) _ _ _ _ _
  · have hE1 : (atV N m root page 3).2 = E := by rw [← HE.out]; unfold wlkE; rw [if_neg h0]
    have hC1 : C = #[.bool false, .bool false, .bool false, .bool false, .int .i64 0] := by rw [← HC.out]; unfold wlkC; rw [if_neg h0]
    have HC1 := hide hC1
    rw [hE1]
    rw [hE1] at h0
    have t : (E != 0) = true := bne_iff_ne.2 h0
    clear h0 hE1 hC1 HE HC HM1
    obtain ⟨e0, e1, e2, e3, e4⟩ := hk.c5
    obtain ⟨f0, f1, f2, f3, f4⟩ := hk.f5
    go_wp2
    refine bodyPost_ret (results_cell_tmp rfl _ _ H 50 _ (0, 0) _ rfl (hk.set5 _ _ _ _ _) Try.underlying50 rfl (by kernel_rfl)) rfl ⟨by rw [HC1.out]; rfl, ?_⟩
    rw [HH.out]
    exact below_set5 hB (Nat.le_refl _) _ _ _ _ _
/-- The greatest level up to j that is there. -/
def dK (N : Nat) (m : Nat → Int) (root page : Int) : Nat → Nat
  | 0 => 0
  | j + 1 => if (atV N m root page ((j + 1 : Nat) : Int)).2 = 0 then j + 1 else dK N m root page j
theorem dK_dep (N : Nat) (m : Nat → Int) (root page : Int) : (dK N m root page 3 : Int) = depV N m root page := by
  unfold depV
  by_cases hb : badV N root page 1 = 0
  · rw [if_pos hb]
    obtain ⟨r, p, l, rfl, rfl, hl, hr, hp, h1, h3⟩ := badV_no hb
    have b : ∀ k : Nat, 1 ≤ k → k ≤ 3 → badV N (r : Int) (p : Int) (k : Int) = 0 := fun k h1 h2 => by unfold badV; rw [if_neg (by omega)]
    have hA : ∀ k : Nat, 1 ≤ k → k ≤ 3 → atV N m r p k = atF N m r p k := fun k h1 h2 => by unfold atV; rw [if_pos (b k h1 h2)]; rfl
    show ((if (atV N m r p ((3 : Nat) : Int)).2 = 0 then 3 else if (atV N m r p ((2 : Nat) : Int)).2 = 0 then 2 else if (atV N m r p ((1 : Nat) : Int)).2 = 0 then 1 else 0 : Nat) : Int) = (depF N m r p : Int)
    rw [hA 3 (by omega) (by omega), hA 2 (by omega) (by omega), hA 1 (by omega) (by omega), atF_3, atF_2]
    unfold depF
    have e1 : (atF N m r p 1).2 = 0 := rfl
    rw [e1]
    by_cases h1 : erN N m r p 1 = 0
    · by_cases h2 : erN N m r p 2 = 0
      · simp [h1, h2]
      · simp [h1, h2]
    · simp [h1]
  · rw [if_neg hb]
    have hb1 : ∀ k : Nat, 1 ≤ k → k ≤ 3 → badV N root page k = 3 := fun k a c => by
      refine badV_yes (fun h => hb ?_)
      obtain ⟨r, p, l, rfl, rfl, hl, hr, hp, h1, h3⟩ := badV_no h
      unfold badV; rw [if_neg (by omega)]
    have hA : ∀ k : Nat, 1 ≤ k → k ≤ 3 → (atV N m root page k).2 = 3 := fun k a c => by
      unfold atV; rw [if_neg (by rw [hb1 k a c]; decide)]; exact hb1 k a c
    show ((if (atV N m root page ((3 : Nat) : Int)).2 = 0 then 3 else if (atV N m root page ((2 : Nat) : Int)).2 = 0 then 2 else if (atV N m root page ((1 : Nat) : Int)).2 = 0 then 1 else 0 : Nat) : Int) = 0
    rw [hA 3 (by omega) (by omega), hA 2 (by omega) (by omega), hA 1 (by omega) (by omega)]
    rfl
end Go.Proofs.Ytlfenakabedmfaa
