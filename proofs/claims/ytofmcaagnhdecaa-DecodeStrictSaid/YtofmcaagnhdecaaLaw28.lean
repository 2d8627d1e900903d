/- The walk of DecodeStrict. -/
import Derived.Test.YtofmcaagnhdecaaAwake28
namespace Go.Proofs.Ytofmcaagnhdecaa
open Go.RowKit
set_option maxHeartbeats 4000000 in
set_option maxRecDepth 100000 in
theorem law_DecodeStrict (op : Int) (x : Nat → Int) (at_ v : Int) (_ : 0 ≤ op ∧ op < 18446744073709551616) (hx : U64 x) (_ : (Lit.int .i64 at_).wf = true) (wv : (Lit.int .u64 v).wf = true) (w : World) :
    Calls Try.prog 4 #[.agg (callA op x), .int .i64 at_, .int .u64 v] w fun e w' => e = .returned (.bool true) ∧ Below w.heap.size w w' := by
  obtain ⟨k, hk⟩ : ∃ k : Nat, lowV at_ 6 = k := Int.eq_ofNat_of_zero_le (low_bd at_ (by decide)).1
  have hk6 : k < 6 := by have := (low_bd at_ (n := 6) (by decide)).2; omega
  have HK := hide hk
  have HX := hide hx
  have HWV := hide (wfu wv)
  clear hk hx wv
  have hcA : callA op x = #[.int .u64 op, .int .u64 (x 0), .int .u64 (x 1), .int .u64 (x 2), .int .u64 (x 3), .int .u64 (x 4), .int .u64 (x 5)] := rfl
  rw [hcA]
  clear hcA
  go_enter Try.func4, Try.ntmps4
  go_wp2_with fail
  refine (low_any at_ 6 _ (by decide) (by decide)).mono ?_
  rintro e w1 ⟨rfl, rfl⟩
  rw [HK.out]
  go_wp2_with fail
  refine (decode_any op x _ HX.out).mono ?_
  rintro e w1 ⟨rfl, hb1⟩
  obtain ⟨z1, k1⟩ := blk_after' (g := w.heap.size) hb1
  have hB1 : Below w.heap.size w w1 := ((Below.refl _ w).alloc (Nat.le_refl _) _).trans (hb1.mono (by simp))
  obtain ⟨m, hm⟩ : ∃ m, (decV op x).1 = m := ⟨_, rfl⟩
  obtain ⟨c, hc⟩ : ∃ c, (decV op x).2 = c := ⟨_, rfl⟩
  rw [hm, hc, ordA_def m]
  have HM := hide hm
  have HCo := hide hc
  clear hm hc hb1
  have hk2 := k1.alloc (.cells #[.int .i64 (m 0), .int .i64 (m 1), .int .i64 (m 2), .int .i64 (m 3), .int .i64 (m 4), .int .i64 (m 5), .int .i64 (m 6), .int .u64 (m 7), .int .u64 (m 8), .int .u64 (m 9), .int .u64 (m 10), .int .u64 (m 11)] 29)
  have ho2 := Blk.new w1 29 #[.int .i64 (m 0), .int .i64 (m 1), .int .i64 (m 2), .int .i64 (m 3), .int .i64 (m 4), .int .i64 (m 5), .int .i64 (m 6), .int .u64 (m 7), .int .u64 (m 8), .int .u64 (m 9), .int .u64 (m 10), .int .u64 (m 11)]
  have HS : Hid (∀ (ca : Array Value) (w2 : World), Below (((w1.alloc (.cells #[.int .i64 (m 0), .int .i64 (m 1), .int .i64 (m 2), .int .i64 (m 3), .int .i64 (m 4), .int .i64 (m 5), .int .i64 (m 6), .int .u64 (m 7), .int .u64 (m 8), .int .u64 (m 9), .int .u64 (m 10), .int .u64 (m 11)] 29)).alloc (.cells ca 25)).heap.size) ((w1.alloc (.cells #[.int .i64 (m 0), .int .i64 (m 1), .int .i64 (m 2), .int .i64 (m 3), .int .i64 (m 4), .int .i64 (m 5), .int .i64 (m 6), .int .u64 (m 7), .int .u64 (m 8), .int .u64 (m 9), .int .u64 (m 10), .int .u64 (m 11)] 29)).alloc (.cells ca 25)) w2 → Below w.heap.size w w2) := hide fun ca w2 h => ((hB1.alloc hB1.size _).alloc (by simp; have := hB1.size; omega) _).trans (h.mono (by simp; have := hB1.size; omega))
  by_cases hc0 : c = 0
  · subst hc0
    have hHG : w.heap.size ≤ w1.heap.size := hB1.size
    clear hB1
    have hcs : k = 0 ∨ k = 1 ∨ k = 2 ∨ k = 3 ∨ k = 4 ∨ k = 5 := by omega
    generalize hH : w.heap.size = H at *
    have HH := hide hH
    clear hH
    rcases hcs with rfl | rfl | rfl | rfl | rfl | rfl
    · obtain ⟨n0, n1, n2, n3, n4, n5, n6⟩ := hk2.c7
      go_wp2_with fail
      refine (decode_any op (fun i => if i = 0 then v else x i) _ (y_u HX.out HWV.out 0)).mono ?_
      rintro e w2 ⟨rfl, hb2⟩
      have hzz := hb2.size
      simp only [World.size_alloc] at hzz
      have hHw2 : H < w2.heap.size := by omega
      have hne2 : ¬ H = w2.heap.size := by omega
      have hk3 := blk_call (hk2.alloc _) hb2
      have ho3' := blk_call (ho2.alloc _) hb2
      have hB2 : Below H w w2 := HS.out _ _ hb2
      have hkc' : w2.cell? ⟨H, 1, none⟩ = some (.int .u64 (x 0)) := hk3.cell 1
      obtain ⟨m2, hm2⟩ : ∃ m2, (decV op (fun i => if i = 0 then v else x i)).1 = m2 := ⟨_, rfl⟩
      obtain ⟨c2, hc2⟩ : ∃ c2, (decV op (fun i => if i = 0 then v else x i)).2 = c2 := ⟨_, rfl⟩
      rw [hm2, hc2, ordA_def m2]
      have hp3' := Blk.new w2 29 #[.int .i64 (m2 0), .int .i64 (m2 1), .int .i64 (m2 2), .int .i64 (m2 3), .int .i64 (m2 4), .int .i64 (m2 5), .int .i64 (m2 6), .int .u64 (m2 7), .int .u64 (m2 8), .int .u64 (m2 9), .int .u64 (m2 10), .int .u64 (m2 11)]
      have HM2 := hide hm2
      have HC2 := hide hc2
      have HN := hide n0
      have hv0 : Hid (v = x 0 → c2 = 0 ∧ m2 = m) := hide fun e => by
        rw [← hc2, ← hm2, y_same e, HCo.out, HM.out]
        exact ⟨rfl, rfl⟩
      have hv1 : Hid (¬ v = x 0 → c2 = 0 → ordB m2 m = false) := hide fun e h2 => by
        rw [← hm2, ← HM.out]
        exact y_other (by decide) e HCo.out (hc2.trans h2)
      have hv2 : Hid (¬ c2 = 0 → m2 = fun _ => 0) := hide fun e => by
        rw [← hm2]
        exact decV_bad (by rw [hc2]; exact e)
      clear hm2 hc2 HN n0 n1 n2 n3 n4 n5 n6 hb2
      by_cases hv : v = x 0
      · obtain ⟨rfl, rfl⟩ := hv0.out hv
        have qb := ordB_self m2
        have q : ∀ w, (Op.equalIn 10000 29 (.agg #[.int .i64 (m2 0), .int .i64 (m2 1), .int .i64 (m2 2), .int .i64 (m2 3), .int .i64 (m2 4), .int .i64 (m2 5), .int .i64 (m2 6), .int .u64 (m2 7), .int .u64 (m2 8), .int .u64 (m2 9), .int .u64 (m2 10), .int .u64 (m2 11)]) (.agg #[.int .i64 (m2 0), .int .i64 (m2 1), .int .i64 (m2 2), .int .i64 (m2 3), .int .i64 (m2 4), .int .i64 (m2 5), .int .i64 (m2 6), .int .u64 (m2 7), .int .u64 (m2 8), .int .u64 (m2 9), .int .u64 (m2 10), .int .u64 (m2 11)])).run Try.prog w = .ok true w := fun w => by rw [← qb]; exact ord_eqA m2 m2 w
        have dv : (v == x 0) = true := by simpa using hv
        clear hv qb hv0 hv1 hv2
        go_wp2
        have ho3 := ho3'.alloc (.cells #[.int .i64 (m2 0), .int .i64 (m2 1), .int .i64 (m2 2), .int .i64 (m2 3), .int .i64 (m2 4), .int .i64 (m2 5), .int .i64 (m2 6), .int .u64 (m2 7), .int .u64 (m2 8), .int .u64 (m2 9), .int .u64 (m2 10), .int .u64 (m2 11)] 29)
        have hkc := (hk3.alloc (.cells #[.int .i64 (m2 0), .int .i64 (m2 1), .int .i64 (m2 2), .int .i64 (m2 3), .int .i64 (m2 4), .int .i64 (m2 5), .int .i64 (m2 6), .int .u64 (m2 7), .int .u64 (m2 8), .int .u64 (m2 9), .int .u64 (m2 10), .int .u64 (m2 11)] 29)).cell 1
        have hB3 := hB2.alloc (by omega) (.cells #[.int .i64 (m2 0), .int .i64 (m2 1), .int .i64 (m2 2), .int .i64 (m2 3), .int .i64 (m2 4), .int .i64 (m2 5), .int .i64 (m2 6), .int .u64 (m2 7), .int .u64 (m2 8), .int .u64 (m2 9), .int .u64 (m2 10), .int .u64 (m2 11)] 29)
        have hHl : H < (w2.alloc (.cells #[.int .i64 (m2 0), .int .i64 (m2 1), .int .i64 (m2 2), .int .i64 (m2 3), .int .i64 (m2 4), .int .i64 (m2 5), .int .i64 (m2 6), .int .u64 (m2 7), .int .u64 (m2 8), .int .u64 (m2 9), .int .u64 (m2 10), .int .u64 (m2 11)] 29)).heap.size := by simp; omega
        have hp3 := hp3'
        clear hp3' ho3' hkc' hB2 hk3
        generalize w2.heap.size = G2 at *
        generalize w1.heap.size = G at *
        generalize w2.alloc (.cells #[.int .i64 (m2 0), .int .i64 (m2 1), .int .i64 (m2 2), .int .i64 (m2 3), .int .i64 (m2 4), .int .i64 (m2 5), .int .i64 (m2 6), .int .u64 (m2 7), .int .u64 (m2 8), .int .u64 (m2 9), .int .u64 (m2 10), .int .u64 (m2 11)] 29) = W3 at *
        simp only [List.getElem?_toArray, List.getElem?_cons_succ, List.getElem?_cons_zero] at hkc
        go_region_held3 (fun w' => Below H w w' ∧ (w'.cell? ⟨G2, 0, none⟩ = some (.int .i64 (m2 0)) ∧ w'.cell? ⟨G2, 1, none⟩ = some (.int .i64 (m2 1)) ∧ w'.cell? ⟨G2, 2, none⟩ = some (.int .i64 (m2 2)) ∧ w'.cell? ⟨G2, 3, none⟩ = some (.int .i64 (m2 3)) ∧ w'.cell? ⟨G2, 4, none⟩ = some (.int .i64 (m2 4)) ∧ w'.cell? ⟨G2, 5, none⟩ = some (.int .i64 (m2 5)) ∧ w'.cell? ⟨G2, 6, none⟩ = some (.int .i64 (m2 6)) ∧ w'.cell? ⟨G2, 7, none⟩ = some (.int .u64 (m2 7)) ∧ w'.cell? ⟨G2, 8, none⟩ = some (.int .u64 (m2 8)) ∧ w'.cell? ⟨G2, 9, none⟩ = some (.int .u64 (m2 9)) ∧ w'.cell? ⟨G2, 10, none⟩ = some (.int .u64 (m2 10)) ∧ w'.cell? ⟨G2, 11, none⟩ = some (.int .u64 (m2 11))) ∧ (w'.cell? ⟨G, 0, none⟩ = some (.int .i64 (m2 0)) ∧ w'.cell? ⟨G, 1, none⟩ = some (.int .i64 (m2 1)) ∧ w'.cell? ⟨G, 2, none⟩ = some (.int .i64 (m2 2)) ∧ w'.cell? ⟨G, 3, none⟩ = some (.int .i64 (m2 3)) ∧ w'.cell? ⟨G, 4, none⟩ = some (.int .i64 (m2 4)) ∧ w'.cell? ⟨G, 5, none⟩ = some (.int .i64 (m2 5)) ∧ w'.cell? ⟨G, 6, none⟩ = some (.int .i64 (m2 6)) ∧ w'.cell? ⟨G, 7, none⟩ = some (.int .u64 (m2 7)) ∧ w'.cell? ⟨G, 8, none⟩ = some (.int .u64 (m2 8)) ∧ w'.cell? ⟨G, 9, none⟩ = some (.int .u64 (m2 9)) ∧ w'.cell? ⟨G, 10, none⟩ = some (.int .u64 (m2 10)) ∧ w'.cell? ⟨G, 11, none⟩ = some (.int .u64 (m2 11))) ∧ w'.cell? ⟨H, 1, none⟩ = some (.int .u64 (x 0))) (first | exact ⟨hB3.drew, hp3.drew.c12, ho3.drew.c12, hkc⟩ | exact ⟨hB4, hp4.c12, ho4.c12, hkc4⟩ | exact ⟨hB3, hp3.c12, ho3.c12, hkc⟩) ((go_at_call 10; refine (awake28 _).mono ?_; rintro e w3 ⟨rfl, hb3⟩; have hB4 := hB3.drew.trans (hb3.mono (show H ≤ W3.heap.size from Nat.le_of_lt hHl)); have hp4 := blk_call hp3.drew hb3; have ho4 := blk_call ho3.drew hb3; have hkc4 := (cell_below hb3 (b := H) (o := 1) hHl).trans hkc))
        all_goals
          go_wp2
          go_ret
          exact ⟨rfl, by rw [HH.out]; assumption⟩
      · by_cases hc2 : c2 = 0
        · have qb := hv1.out hv hc2
          subst hc2
          have q : ∀ w, (Op.equalIn 10000 29 (.agg #[.int .i64 (m2 0), .int .i64 (m2 1), .int .i64 (m2 2), .int .i64 (m2 3), .int .i64 (m2 4), .int .i64 (m2 5), .int .i64 (m2 6), .int .u64 (m2 7), .int .u64 (m2 8), .int .u64 (m2 9), .int .u64 (m2 10), .int .u64 (m2 11)]) (.agg #[.int .i64 (m 0), .int .i64 (m 1), .int .i64 (m 2), .int .i64 (m 3), .int .i64 (m 4), .int .i64 (m 5), .int .i64 (m 6), .int .u64 (m 7), .int .u64 (m 8), .int .u64 (m 9), .int .u64 (m 10), .int .u64 (m 11)])).run Try.prog w = .ok false w := fun w => by rw [← qb]; exact ord_eqA m2 m w
          have dv : (v == x 0) = false := by simpa using hv
          clear hv qb hv0 hv1 hv2
          go_wp2
          have ho3 := ho3'.alloc (.cells #[.int .i64 (m2 0), .int .i64 (m2 1), .int .i64 (m2 2), .int .i64 (m2 3), .int .i64 (m2 4), .int .i64 (m2 5), .int .i64 (m2 6), .int .u64 (m2 7), .int .u64 (m2 8), .int .u64 (m2 9), .int .u64 (m2 10), .int .u64 (m2 11)] 29)
          have hkc := (hk3.alloc (.cells #[.int .i64 (m2 0), .int .i64 (m2 1), .int .i64 (m2 2), .int .i64 (m2 3), .int .i64 (m2 4), .int .i64 (m2 5), .int .i64 (m2 6), .int .u64 (m2 7), .int .u64 (m2 8), .int .u64 (m2 9), .int .u64 (m2 10), .int .u64 (m2 11)] 29)).cell 1
          have hB3 := hB2.alloc (by omega) (.cells #[.int .i64 (m2 0), .int .i64 (m2 1), .int .i64 (m2 2), .int .i64 (m2 3), .int .i64 (m2 4), .int .i64 (m2 5), .int .i64 (m2 6), .int .u64 (m2 7), .int .u64 (m2 8), .int .u64 (m2 9), .int .u64 (m2 10), .int .u64 (m2 11)] 29)
          have hHl : H < (w2.alloc (.cells #[.int .i64 (m2 0), .int .i64 (m2 1), .int .i64 (m2 2), .int .i64 (m2 3), .int .i64 (m2 4), .int .i64 (m2 5), .int .i64 (m2 6), .int .u64 (m2 7), .int .u64 (m2 8), .int .u64 (m2 9), .int .u64 (m2 10), .int .u64 (m2 11)] 29)).heap.size := by simp; omega
          have hp3 := hp3'
          clear hp3' ho3' hkc' hB2 hk3
          generalize w2.heap.size = G2 at *
          generalize w1.heap.size = G at *
          generalize w2.alloc (.cells #[.int .i64 (m2 0), .int .i64 (m2 1), .int .i64 (m2 2), .int .i64 (m2 3), .int .i64 (m2 4), .int .i64 (m2 5), .int .i64 (m2 6), .int .u64 (m2 7), .int .u64 (m2 8), .int .u64 (m2 9), .int .u64 (m2 10), .int .u64 (m2 11)] 29) = W3 at *
          simp only [List.getElem?_toArray, List.getElem?_cons_succ, List.getElem?_cons_zero] at hkc
          go_region_held3 (fun w' => Below H w w' ∧ (w'.cell? ⟨G2, 0, none⟩ = some (.int .i64 (m2 0)) ∧ w'.cell? ⟨G2, 1, none⟩ = some (.int .i64 (m2 1)) ∧ w'.cell? ⟨G2, 2, none⟩ = some (.int .i64 (m2 2)) ∧ w'.cell? ⟨G2, 3, none⟩ = some (.int .i64 (m2 3)) ∧ w'.cell? ⟨G2, 4, none⟩ = some (.int .i64 (m2 4)) ∧ w'.cell? ⟨G2, 5, none⟩ = some (.int .i64 (m2 5)) ∧ w'.cell? ⟨G2, 6, none⟩ = some (.int .i64 (m2 6)) ∧ w'.cell? ⟨G2, 7, none⟩ = some (.int .u64 (m2 7)) ∧ w'.cell? ⟨G2, 8, none⟩ = some (.int .u64 (m2 8)) ∧ w'.cell? ⟨G2, 9, none⟩ = some (.int .u64 (m2 9)) ∧ w'.cell? ⟨G2, 10, none⟩ = some (.int .u64 (m2 10)) ∧ w'.cell? ⟨G2, 11, none⟩ = some (.int .u64 (m2 11))) ∧ (w'.cell? ⟨G, 0, none⟩ = some (.int .i64 (m 0)) ∧ w'.cell? ⟨G, 1, none⟩ = some (.int .i64 (m 1)) ∧ w'.cell? ⟨G, 2, none⟩ = some (.int .i64 (m 2)) ∧ w'.cell? ⟨G, 3, none⟩ = some (.int .i64 (m 3)) ∧ w'.cell? ⟨G, 4, none⟩ = some (.int .i64 (m 4)) ∧ w'.cell? ⟨G, 5, none⟩ = some (.int .i64 (m 5)) ∧ w'.cell? ⟨G, 6, none⟩ = some (.int .i64 (m 6)) ∧ w'.cell? ⟨G, 7, none⟩ = some (.int .u64 (m 7)) ∧ w'.cell? ⟨G, 8, none⟩ = some (.int .u64 (m 8)) ∧ w'.cell? ⟨G, 9, none⟩ = some (.int .u64 (m 9)) ∧ w'.cell? ⟨G, 10, none⟩ = some (.int .u64 (m 10)) ∧ w'.cell? ⟨G, 11, none⟩ = some (.int .u64 (m 11))) ∧ w'.cell? ⟨H, 1, none⟩ = some (.int .u64 (x 0))) (first | exact ⟨hB3.drew, hp3.drew.c12, ho3.drew.c12, hkc⟩ | exact ⟨hB4, hp4.c12, ho4.c12, hkc4⟩ | exact ⟨hB3, hp3.c12, ho3.c12, hkc⟩) ((go_at_call 10; refine (awake28 _).mono ?_; rintro e w3 ⟨rfl, hb3⟩; have hB4 := hB3.drew.trans (hb3.mono (show H ≤ W3.heap.size from Nat.le_of_lt hHl)); have hp4 := blk_call hp3.drew hb3; have ho4 := blk_call ho3.drew hb3; have hkc4 := (cell_below hb3 (b := H) (o := 1) hHl).trans hkc))
          all_goals
            go_wp2
            go_ret
            exact ⟨rfl, by rw [HH.out]; assumption⟩
        · obtain rfl := hv2.out hc2
          have q3 := eq3 0 0 0 0 0 0
          have q4 := eq4 0 0 0 0 0 0 0 0
          have dv : (v != x 0) = true := by simpa using hv
          clear hv hv0 hv1 hv2
          go_wp2_with fail
          refine (awake28 _).mono ?_
          rintro e w3 ⟨rfl, hb3⟩
          go_wp2_with fail
          go_ret
          exact ⟨rfl, by rw [HH.out]; exact (hB2.alloc (by omega) _).trans (hb3.mono (by simp; omega))⟩
    · obtain ⟨n0, n1, n2, n3, n4, n5, n6⟩ := hk2.c7
      go_wp2_with fail
      refine (decode_any op (fun i => if i = 1 then v else x i) _ (y_u HX.out HWV.out 1)).mono ?_
      rintro e w2 ⟨rfl, hb2⟩
      have hzz := hb2.size
      simp only [World.size_alloc] at hzz
      have hHw2 : H < w2.heap.size := by omega
      have hne2 : ¬ H = w2.heap.size := by omega
      have hk3 := blk_call (hk2.alloc _) hb2
      have ho3' := blk_call (ho2.alloc _) hb2
      have hB2 : Below H w w2 := HS.out _ _ hb2
      have hkc' : w2.cell? ⟨H, 2, none⟩ = some (.int .u64 (x 1)) := hk3.cell 2
      obtain ⟨m2, hm2⟩ : ∃ m2, (decV op (fun i => if i = 1 then v else x i)).1 = m2 := ⟨_, rfl⟩
      obtain ⟨c2, hc2⟩ : ∃ c2, (decV op (fun i => if i = 1 then v else x i)).2 = c2 := ⟨_, rfl⟩
      rw [hm2, hc2, ordA_def m2]
      have hp3' := Blk.new w2 29 #[.int .i64 (m2 0), .int .i64 (m2 1), .int .i64 (m2 2), .int .i64 (m2 3), .int .i64 (m2 4), .int .i64 (m2 5), .int .i64 (m2 6), .int .u64 (m2 7), .int .u64 (m2 8), .int .u64 (m2 9), .int .u64 (m2 10), .int .u64 (m2 11)]
      have HM2 := hide hm2
      have HC2 := hide hc2
      have HN := hide n0
      have hv0 : Hid (v = x 1 → c2 = 0 ∧ m2 = m) := hide fun e => by
        rw [← hc2, ← hm2, y_same e, HCo.out, HM.out]
        exact ⟨rfl, rfl⟩
      have hv1 : Hid (¬ v = x 1 → c2 = 0 → ordB m2 m = false) := hide fun e h2 => by
        rw [← hm2, ← HM.out]
        exact y_other (by decide) e HCo.out (hc2.trans h2)
      have hv2 : Hid (¬ c2 = 0 → m2 = fun _ => 0) := hide fun e => by
        rw [← hm2]
        exact decV_bad (by rw [hc2]; exact e)
      clear hm2 hc2 HN n0 n1 n2 n3 n4 n5 n6 hb2
      by_cases hv : v = x 1
      · obtain ⟨rfl, rfl⟩ := hv0.out hv
        have qb := ordB_self m2
        have q : ∀ w, (Op.equalIn 10000 29 (.agg #[.int .i64 (m2 0), .int .i64 (m2 1), .int .i64 (m2 2), .int .i64 (m2 3), .int .i64 (m2 4), .int .i64 (m2 5), .int .i64 (m2 6), .int .u64 (m2 7), .int .u64 (m2 8), .int .u64 (m2 9), .int .u64 (m2 10), .int .u64 (m2 11)]) (.agg #[.int .i64 (m2 0), .int .i64 (m2 1), .int .i64 (m2 2), .int .i64 (m2 3), .int .i64 (m2 4), .int .i64 (m2 5), .int .i64 (m2 6), .int .u64 (m2 7), .int .u64 (m2 8), .int .u64 (m2 9), .int .u64 (m2 10), .int .u64 (m2 11)])).run Try.prog w = .ok true w := fun w => by rw [← qb]; exact ord_eqA m2 m2 w
        have dv : (v == x 1) = true := by simpa using hv
        clear hv qb hv0 hv1 hv2
        go_wp2
        have ho3 := ho3'.alloc (.cells #[.int .i64 (m2 0), .int .i64 (m2 1), .int .i64 (m2 2), .int .i64 (m2 3), .int .i64 (m2 4), .int .i64 (m2 5), .int .i64 (m2 6), .int .u64 (m2 7), .int .u64 (m2 8), .int .u64 (m2 9), .int .u64 (m2 10), .int .u64 (m2 11)] 29)
        have hkc := (hk3.alloc (.cells #[.int .i64 (m2 0), .int .i64 (m2 1), .int .i64 (m2 2), .int .i64 (m2 3), .int .i64 (m2 4), .int .i64 (m2 5), .int .i64 (m2 6), .int .u64 (m2 7), .int .u64 (m2 8), .int .u64 (m2 9), .int .u64 (m2 10), .int .u64 (m2 11)] 29)).cell 2
        have hB3 := hB2.alloc (by omega) (.cells #[.int .i64 (m2 0), .int .i64 (m2 1), .int .i64 (m2 2), .int .i64 (m2 3), .int .i64 (m2 4), .int .i64 (m2 5), .int .i64 (m2 6), .int .u64 (m2 7), .int .u64 (m2 8), .int .u64 (m2 9), .int .u64 (m2 10), .int .u64 (m2 11)] 29)
        have hHl : H < (w2.alloc (.cells #[.int .i64 (m2 0), .int .i64 (m2 1), .int .i64 (m2 2), .int .i64 (m2 3), .int .i64 (m2 4), .int .i64 (m2 5), .int .i64 (m2 6), .int .u64 (m2 7), .int .u64 (m2 8), .int .u64 (m2 9), .int .u64 (m2 10), .int .u64 (m2 11)] 29)).heap.size := by simp; omega
        have hp3 := hp3'
        clear hp3' ho3' hkc' hB2 hk3
        generalize w2.heap.size = G2 at *
        generalize w1.heap.size = G at *
        generalize w2.alloc (.cells #[.int .i64 (m2 0), .int .i64 (m2 1), .int .i64 (m2 2), .int .i64 (m2 3), .int .i64 (m2 4), .int .i64 (m2 5), .int .i64 (m2 6), .int .u64 (m2 7), .int .u64 (m2 8), .int .u64 (m2 9), .int .u64 (m2 10), .int .u64 (m2 11)] 29) = W3 at *
        simp only [List.getElem?_toArray, List.getElem?_cons_succ, List.getElem?_cons_zero] at hkc
        go_region_held3 (fun w' => Below H w w' ∧ (w'.cell? ⟨G2, 0, none⟩ = some (.int .i64 (m2 0)) ∧ w'.cell? ⟨G2, 1, none⟩ = some (.int .i64 (m2 1)) ∧ w'.cell? ⟨G2, 2, none⟩ = some (.int .i64 (m2 2)) ∧ w'.cell? ⟨G2, 3, none⟩ = some (.int .i64 (m2 3)) ∧ w'.cell? ⟨G2, 4, none⟩ = some (.int .i64 (m2 4)) ∧ w'.cell? ⟨G2, 5, none⟩ = some (.int .i64 (m2 5)) ∧ w'.cell? ⟨G2, 6, none⟩ = some (.int .i64 (m2 6)) ∧ w'.cell? ⟨G2, 7, none⟩ = some (.int .u64 (m2 7)) ∧ w'.cell? ⟨G2, 8, none⟩ = some (.int .u64 (m2 8)) ∧ w'.cell? ⟨G2, 9, none⟩ = some (.int .u64 (m2 9)) ∧ w'.cell? ⟨G2, 10, none⟩ = some (.int .u64 (m2 10)) ∧ w'.cell? ⟨G2, 11, none⟩ = some (.int .u64 (m2 11))) ∧ (w'.cell? ⟨G, 0, none⟩ = some (.int .i64 (m2 0)) ∧ w'.cell? ⟨G, 1, none⟩ = some (.int .i64 (m2 1)) ∧ w'.cell? ⟨G, 2, none⟩ = some (.int .i64 (m2 2)) ∧ w'.cell? ⟨G, 3, none⟩ = some (.int .i64 (m2 3)) ∧ w'.cell? ⟨G, 4, none⟩ = some (.int .i64 (m2 4)) ∧ w'.cell? ⟨G, 5, none⟩ = some (.int .i64 (m2 5)) ∧ w'.cell? ⟨G, 6, none⟩ = some (.int .i64 (m2 6)) ∧ w'.cell? ⟨G, 7, none⟩ = some (.int .u64 (m2 7)) ∧ w'.cell? ⟨G, 8, none⟩ = some (.int .u64 (m2 8)) ∧ w'.cell? ⟨G, 9, none⟩ = some (.int .u64 (m2 9)) ∧ w'.cell? ⟨G, 10, none⟩ = some (.int .u64 (m2 10)) ∧ w'.cell? ⟨G, 11, none⟩ = some (.int .u64 (m2 11))) ∧ w'.cell? ⟨H, 2, none⟩ = some (.int .u64 (x 1))) (first | exact ⟨hB3.drew, hp3.drew.c12, ho3.drew.c12, hkc⟩ | exact ⟨hB4, hp4.c12, ho4.c12, hkc4⟩ | exact ⟨hB3, hp3.c12, ho3.c12, hkc⟩) ((go_at_call 10; refine (awake28 _).mono ?_; rintro e w3 ⟨rfl, hb3⟩; have hB4 := hB3.drew.trans (hb3.mono (show H ≤ W3.heap.size from Nat.le_of_lt hHl)); have hp4 := blk_call hp3.drew hb3; have ho4 := blk_call ho3.drew hb3; have hkc4 := (cell_below hb3 (b := H) (o := 2) hHl).trans hkc))
        all_goals
          go_wp2
          go_ret
          exact ⟨rfl, by rw [HH.out]; assumption⟩
      · by_cases hc2 : c2 = 0
        · have qb := hv1.out hv hc2
          subst hc2
          have q : ∀ w, (Op.equalIn 10000 29 (.agg #[.int .i64 (m2 0), .int .i64 (m2 1), .int .i64 (m2 2), .int .i64 (m2 3), .int .i64 (m2 4), .int .i64 (m2 5), .int .i64 (m2 6), .int .u64 (m2 7), .int .u64 (m2 8), .int .u64 (m2 9), .int .u64 (m2 10), .int .u64 (m2 11)]) (.agg #[.int .i64 (m 0), .int .i64 (m 1), .int .i64 (m 2), .int .i64 (m 3), .int .i64 (m 4), .int .i64 (m 5), .int .i64 (m 6), .int .u64 (m 7), .int .u64 (m 8), .int .u64 (m 9), .int .u64 (m 10), .int .u64 (m 11)])).run Try.prog w = .ok false w := fun w => by rw [← qb]; exact ord_eqA m2 m w
          have dv : (v == x 1) = false := by simpa using hv
          clear hv qb hv0 hv1 hv2
          go_wp2
          have ho3 := ho3'.alloc (.cells #[.int .i64 (m2 0), .int .i64 (m2 1), .int .i64 (m2 2), .int .i64 (m2 3), .int .i64 (m2 4), .int .i64 (m2 5), .int .i64 (m2 6), .int .u64 (m2 7), .int .u64 (m2 8), .int .u64 (m2 9), .int .u64 (m2 10), .int .u64 (m2 11)] 29)
          have hkc := (hk3.alloc (.cells #[.int .i64 (m2 0), .int .i64 (m2 1), .int .i64 (m2 2), .int .i64 (m2 3), .int .i64 (m2 4), .int .i64 (m2 5), .int .i64 (m2 6), .int .u64 (m2 7), .int .u64 (m2 8), .int .u64 (m2 9), .int .u64 (m2 10), .int .u64 (m2 11)] 29)).cell 2
          have hB3 := hB2.alloc (by omega) (.cells #[.int .i64 (m2 0), .int .i64 (m2 1), .int .i64 (m2 2), .int .i64 (m2 3), .int .i64 (m2 4), .int .i64 (m2 5), .int .i64 (m2 6), .int .u64 (m2 7), .int .u64 (m2 8), .int .u64 (m2 9), .int .u64 (m2 10), .int .u64 (m2 11)] 29)
          have hHl : H < (w2.alloc (.cells #[.int .i64 (m2 0), .int .i64 (m2 1), .int .i64 (m2 2), .int .i64 (m2 3), .int .i64 (m2 4), .int .i64 (m2 5), .int .i64 (m2 6), .int .u64 (m2 7), .int .u64 (m2 8), .int .u64 (m2 9), .int .u64 (m2 10), .int .u64 (m2 11)] 29)).heap.size := by simp; omega
          have hp3 := hp3'
          clear hp3' ho3' hkc' hB2 hk3
          generalize w2.heap.size = G2 at *
          generalize w1.heap.size = G at *
          generalize w2.alloc (.cells #[.int .i64 (m2 0), .int .i64 (m2 1), .int .i64 (m2 2), .int .i64 (m2 3), .int .i64 (m2 4), .int .i64 (m2 5), .int .i64 (m2 6), .int .u64 (m2 7), .int .u64 (m2 8), .int .u64 (m2 9), .int .u64 (m2 10), .int .u64 (m2 11)] 29) = W3 at *
          simp only [List.getElem?_toArray, List.getElem?_cons_succ, List.getElem?_cons_zero] at hkc
          go_region_held3 (fun w' => Below H w w' ∧ (w'.cell? ⟨G2, 0, none⟩ = some (.int .i64 (m2 0)) ∧ w'.cell? ⟨G2, 1, none⟩ = some (.int .i64 (m2 1)) ∧ w'.cell? ⟨G2, 2, none⟩ = some (.int .i64 (m2 2)) ∧ w'.cell? ⟨G2, 3, none⟩ = some (.int .i64 (m2 3)) ∧ w'.cell? ⟨G2, 4, none⟩ = some (.int .i64 (m2 4)) ∧ w'.cell? ⟨G2, 5, none⟩ = some (.int .i64 (m2 5)) ∧ w'.cell? ⟨G2, 6, none⟩ = some (.int .i64 (m2 6)) ∧ w'.cell? ⟨G2, 7, none⟩ = some (.int .u64 (m2 7)) ∧ w'.cell? ⟨G2, 8, none⟩ = some (.int .u64 (m2 8)) ∧ w'.cell? ⟨G2, 9, none⟩ = some (.int .u64 (m2 9)) ∧ w'.cell? ⟨G2, 10, none⟩ = some (.int .u64 (m2 10)) ∧ w'.cell? ⟨G2, 11, none⟩ = some (.int .u64 (m2 11))) ∧ (w'.cell? ⟨G, 0, none⟩ = some (.int .i64 (m 0)) ∧ w'.cell? ⟨G, 1, none⟩ = some (.int .i64 (m 1)) ∧ w'.cell? ⟨G, 2, none⟩ = some (.int .i64 (m 2)) ∧ w'.cell? ⟨G, 3, none⟩ = some (.int .i64 (m 3)) ∧ w'.cell? ⟨G, 4, none⟩ = some (.int .i64 (m 4)) ∧ w'.cell? ⟨G, 5, none⟩ = some (.int .i64 (m 5)) ∧ w'.cell? ⟨G, 6, none⟩ = some (.int .i64 (m 6)) ∧ w'.cell? ⟨G, 7, none⟩ = some (.int .u64 (m 7)) ∧ w'.cell? ⟨G, 8, none⟩ = some (.int .u64 (m 8)) ∧ w'.cell? ⟨G, 9, none⟩ = some (.int .u64 (m 9)) ∧ w'.cell? ⟨G, 10, none⟩ = some (.int .u64 (m 10)) ∧ w'.cell? ⟨G, 11, none⟩ = some (.int .u64 (m 11))) ∧ w'.cell? ⟨H, 2, none⟩ = some (.int .u64 (x 1))) (first | exact ⟨hB3.drew, hp3.drew.c12, ho3.drew.c12, hkc⟩ | exact ⟨hB4, hp4.c12, ho4.c12, hkc4⟩ | exact ⟨hB3, hp3.c12, ho3.c12, hkc⟩) ((go_at_call 10; refine (awake28 _).mono ?_; rintro e w3 ⟨rfl, hb3⟩; have hB4 := hB3.drew.trans (hb3.mono (show H ≤ W3.heap.size from Nat.le_of_lt hHl)); have hp4 := blk_call hp3.drew hb3; have ho4 := blk_call ho3.drew hb3; have hkc4 := (cell_below hb3 (b := H) (o := 2) hHl).trans hkc))
          all_goals
            go_wp2
            go_ret
            exact ⟨rfl, by rw [HH.out]; assumption⟩
        · obtain rfl := hv2.out hc2
          have q3 := eq3 0 0 0 0 0 0
          have q4 := eq4 0 0 0 0 0 0 0 0
          have dv : (v != x 1) = true := by simpa using hv
          clear hv hv0 hv1 hv2
          go_wp2_with fail
          refine (awake28 _).mono ?_
          rintro e w3 ⟨rfl, hb3⟩
          go_wp2_with fail
          go_ret
          exact ⟨rfl, by rw [HH.out]; exact (hB2.alloc (by omega) _).trans (hb3.mono (by simp; omega))⟩
    · obtain ⟨n0, n1, n2, n3, n4, n5, n6⟩ := hk2.c7
      go_wp2_with fail
      refine (decode_any op (fun i => if i = 2 then v else x i) _ (y_u HX.out HWV.out 2)).mono ?_
      rintro e w2 ⟨rfl, hb2⟩
      have hzz := hb2.size
      simp only [World.size_alloc] at hzz
      have hHw2 : H < w2.heap.size := by omega
      have hne2 : ¬ H = w2.heap.size := by omega
      have hk3 := blk_call (hk2.alloc _) hb2
      have ho3' := blk_call (ho2.alloc _) hb2
      have hB2 : Below H w w2 := HS.out _ _ hb2
      have hkc' : w2.cell? ⟨H, 3, none⟩ = some (.int .u64 (x 2)) := hk3.cell 3
      obtain ⟨m2, hm2⟩ : ∃ m2, (decV op (fun i => if i = 2 then v else x i)).1 = m2 := ⟨_, rfl⟩
      obtain ⟨c2, hc2⟩ : ∃ c2, (decV op (fun i => if i = 2 then v else x i)).2 = c2 := ⟨_, rfl⟩
      rw [hm2, hc2, ordA_def m2]
      have hp3' := Blk.new w2 29 #[.int .i64 (m2 0), .int .i64 (m2 1), .int .i64 (m2 2), .int .i64 (m2 3), .int .i64 (m2 4), .int .i64 (m2 5), .int .i64 (m2 6), .int .u64 (m2 7), .int .u64 (m2 8), .int .u64 (m2 9), .int .u64 (m2 10), .int .u64 (m2 11)]
      have HM2 := hide hm2
      have HC2 := hide hc2
      have HN := hide n0
      have hv0 : Hid (v = x 2 → c2 = 0 ∧ m2 = m) := hide fun e => by
        rw [← hc2, ← hm2, y_same e, HCo.out, HM.out]
        exact ⟨rfl, rfl⟩
      have hv1 : Hid (¬ v = x 2 → c2 = 0 → ordB m2 m = false) := hide fun e h2 => by
        rw [← hm2, ← HM.out]
        exact y_other (by decide) e HCo.out (hc2.trans h2)
      have hv2 : Hid (¬ c2 = 0 → m2 = fun _ => 0) := hide fun e => by
        rw [← hm2]
        exact decV_bad (by rw [hc2]; exact e)
      clear hm2 hc2 HN n0 n1 n2 n3 n4 n5 n6 hb2
      by_cases hv : v = x 2
      · obtain ⟨rfl, rfl⟩ := hv0.out hv
        have qb := ordB_self m2
        have q : ∀ w, (Op.equalIn 10000 29 (.agg #[.int .i64 (m2 0), .int .i64 (m2 1), .int .i64 (m2 2), .int .i64 (m2 3), .int .i64 (m2 4), .int .i64 (m2 5), .int .i64 (m2 6), .int .u64 (m2 7), .int .u64 (m2 8), .int .u64 (m2 9), .int .u64 (m2 10), .int .u64 (m2 11)]) (.agg #[.int .i64 (m2 0), .int .i64 (m2 1), .int .i64 (m2 2), .int .i64 (m2 3), .int .i64 (m2 4), .int .i64 (m2 5), .int .i64 (m2 6), .int .u64 (m2 7), .int .u64 (m2 8), .int .u64 (m2 9), .int .u64 (m2 10), .int .u64 (m2 11)])).run Try.prog w = .ok true w := fun w => by rw [← qb]; exact ord_eqA m2 m2 w
        have dv : (v == x 2) = true := by simpa using hv
        clear hv qb hv0 hv1 hv2
        go_wp2
        have ho3 := ho3'.alloc (.cells #[.int .i64 (m2 0), .int .i64 (m2 1), .int .i64 (m2 2), .int .i64 (m2 3), .int .i64 (m2 4), .int .i64 (m2 5), .int .i64 (m2 6), .int .u64 (m2 7), .int .u64 (m2 8), .int .u64 (m2 9), .int .u64 (m2 10), .int .u64 (m2 11)] 29)
        have hkc := (hk3.alloc (.cells #[.int .i64 (m2 0), .int .i64 (m2 1), .int .i64 (m2 2), .int .i64 (m2 3), .int .i64 (m2 4), .int .i64 (m2 5), .int .i64 (m2 6), .int .u64 (m2 7), .int .u64 (m2 8), .int .u64 (m2 9), .int .u64 (m2 10), .int .u64 (m2 11)] 29)).cell 3
        have hB3 := hB2.alloc (by omega) (.cells #[.int .i64 (m2 0), .int .i64 (m2 1), .int .i64 (m2 2), .int .i64 (m2 3), .int .i64 (m2 4), .int .i64 (m2 5), .int .i64 (m2 6), .int .u64 (m2 7), .int .u64 (m2 8), .int .u64 (m2 9), .int .u64 (m2 10), .int .u64 (m2 11)] 29)
        have hHl : H < (w2.alloc (.cells #[.int .i64 (m2 0), .int .i64 (m2 1), .int .i64 (m2 2), .int .i64 (m2 3), .int .i64 (m2 4), .int .i64 (m2 5), .int .i64 (m2 6), .int .u64 (m2 7), .int .u64 (m2 8), .int .u64 (m2 9), .int .u64 (m2 10), .int .u64 (m2 11)] 29)).heap.size := by simp; omega
        have hp3 := hp3'
        clear hp3' ho3' hkc' hB2 hk3
        generalize w2.heap.size = G2 at *
        generalize w1.heap.size = G at *
        generalize w2.alloc (.cells #[.int .i64 (m2 0), .int .i64 (m2 1), .int .i64 (m2 2), .int .i64 (m2 3), .int .i64 (m2 4), .int .i64 (m2 5), .int .i64 (m2 6), .int .u64 (m2 7), .int .u64 (m2 8), .int .u64 (m2 9), .int .u64 (m2 10), .int .u64 (m2 11)] 29) = W3 at *
        simp only [List.getElem?_toArray, List.getElem?_cons_succ, List.getElem?_cons_zero] at hkc
        go_region_held3 (fun w' => Below H w w' ∧ (w'.cell? ⟨G2, 0, none⟩ = some (.int .i64 (m2 0)) ∧ w'.cell? ⟨G2, 1, none⟩ = some (.int .i64 (m2 1)) ∧ w'.cell? ⟨G2, 2, none⟩ = some (.int .i64 (m2 2)) ∧ w'.cell? ⟨G2, 3, none⟩ = some (.int .i64 (m2 3)) ∧ w'.cell? ⟨G2, 4, none⟩ = some (.int .i64 (m2 4)) ∧ w'.cell? ⟨G2, 5, none⟩ = some (.int .i64 (m2 5)) ∧ w'.cell? ⟨G2, 6, none⟩ = some (.int .i64 (m2 6)) ∧ w'.cell? ⟨G2, 7, none⟩ = some (.int .u64 (m2 7)) ∧ w'.cell? ⟨G2, 8, none⟩ = some (.int .u64 (m2 8)) ∧ w'.cell? ⟨G2, 9, none⟩ = some (.int .u64 (m2 9)) ∧ w'.cell? ⟨G2, 10, none⟩ = some (.int .u64 (m2 10)) ∧ w'.cell? ⟨G2, 11, none⟩ = some (.int .u64 (m2 11))) ∧ (w'.cell? ⟨G, 0, none⟩ = some (.int .i64 (m2 0)) ∧ w'.cell? ⟨G, 1, none⟩ = some (.int .i64 (m2 1)) ∧ w'.cell? ⟨G, 2, none⟩ = some (.int .i64 (m2 2)) ∧ w'.cell? ⟨G, 3, none⟩ = some (.int .i64 (m2 3)) ∧ w'.cell? ⟨G, 4, none⟩ = some (.int .i64 (m2 4)) ∧ w'.cell? ⟨G, 5, none⟩ = some (.int .i64 (m2 5)) ∧ w'.cell? ⟨G, 6, none⟩ = some (.int .i64 (m2 6)) ∧ w'.cell? ⟨G, 7, none⟩ = some (.int .u64 (m2 7)) ∧ w'.cell? ⟨G, 8, none⟩ = some (.int .u64 (m2 8)) ∧ w'.cell? ⟨G, 9, none⟩ = some (.int .u64 (m2 9)) ∧ w'.cell? ⟨G, 10, none⟩ = some (.int .u64 (m2 10)) ∧ w'.cell? ⟨G, 11, none⟩ = some (.int .u64 (m2 11))) ∧ w'.cell? ⟨H, 3, none⟩ = some (.int .u64 (x 2))) (first | exact ⟨hB3.drew, hp3.drew.c12, ho3.drew.c12, hkc⟩ | exact ⟨hB4, hp4.c12, ho4.c12, hkc4⟩ | exact ⟨hB3, hp3.c12, ho3.c12, hkc⟩) ((go_at_call 10; refine (awake28 _).mono ?_; rintro e w3 ⟨rfl, hb3⟩; have hB4 := hB3.drew.trans (hb3.mono (show H ≤ W3.heap.size from Nat.le_of_lt hHl)); have hp4 := blk_call hp3.drew hb3; have ho4 := blk_call ho3.drew hb3; have hkc4 := (cell_below hb3 (b := H) (o := 3) hHl).trans hkc))
        all_goals
          go_wp2
          go_ret
          exact ⟨rfl, by rw [HH.out]; assumption⟩
      · by_cases hc2 : c2 = 0
        · have qb := hv1.out hv hc2
          subst hc2
          have q : ∀ w, (Op.equalIn 10000 29 (.agg #[.int .i64 (m2 0), .int .i64 (m2 1), .int .i64 (m2 2), .int .i64 (m2 3), .int .i64 (m2 4), .int .i64 (m2 5), .int .i64 (m2 6), .int .u64 (m2 7), .int .u64 (m2 8), .int .u64 (m2 9), .int .u64 (m2 10), .int .u64 (m2 11)]) (.agg #[.int .i64 (m 0), .int .i64 (m 1), .int .i64 (m 2), .int .i64 (m 3), .int .i64 (m 4), .int .i64 (m 5), .int .i64 (m 6), .int .u64 (m 7), .int .u64 (m 8), .int .u64 (m 9), .int .u64 (m 10), .int .u64 (m 11)])).run Try.prog w = .ok false w := fun w => by rw [← qb]; exact ord_eqA m2 m w
          have dv : (v == x 2) = false := by simpa using hv
          clear hv qb hv0 hv1 hv2
          go_wp2
          have ho3 := ho3'.alloc (.cells #[.int .i64 (m2 0), .int .i64 (m2 1), .int .i64 (m2 2), .int .i64 (m2 3), .int .i64 (m2 4), .int .i64 (m2 5), .int .i64 (m2 6), .int .u64 (m2 7), .int .u64 (m2 8), .int .u64 (m2 9), .int .u64 (m2 10), .int .u64 (m2 11)] 29)
          have hkc := (hk3.alloc (.cells #[.int .i64 (m2 0), .int .i64 (m2 1), .int .i64 (m2 2), .int .i64 (m2 3), .int .i64 (m2 4), .int .i64 (m2 5), .int .i64 (m2 6), .int .u64 (m2 7), .int .u64 (m2 8), .int .u64 (m2 9), .int .u64 (m2 10), .int .u64 (m2 11)] 29)).cell 3
          have hB3 := hB2.alloc (by omega) (.cells #[.int .i64 (m2 0), .int .i64 (m2 1), .int .i64 (m2 2), .int .i64 (m2 3), .int .i64 (m2 4), .int .i64 (m2 5), .int .i64 (m2 6), .int .u64 (m2 7), .int .u64 (m2 8), .int .u64 (m2 9), .int .u64 (m2 10), .int .u64 (m2 11)] 29)
          have hHl : H < (w2.alloc (.cells #[.int .i64 (m2 0), .int .i64 (m2 1), .int .i64 (m2 2), .int .i64 (m2 3), .int .i64 (m2 4), .int .i64 (m2 5), .int .i64 (m2 6), .int .u64 (m2 7), .int .u64 (m2 8), .int .u64 (m2 9), .int .u64 (m2 10), .int .u64 (m2 11)] 29)).heap.size := by simp; omega
          have hp3 := hp3'
          clear hp3' ho3' hkc' hB2 hk3
          generalize w2.heap.size = G2 at *
          generalize w1.heap.size = G at *
          generalize w2.alloc (.cells #[.int .i64 (m2 0), .int .i64 (m2 1), .int .i64 (m2 2), .int .i64 (m2 3), .int .i64 (m2 4), .int .i64 (m2 5), .int .i64 (m2 6), .int .u64 (m2 7), .int .u64 (m2 8), .int .u64 (m2 9), .int .u64 (m2 10), .int .u64 (m2 11)] 29) = W3 at *
          simp only [List.getElem?_toArray, List.getElem?_cons_succ, List.getElem?_cons_zero] at hkc
          go_region_held3 (fun w' => Below H w w' ∧ (w'.cell? ⟨G2, 0, none⟩ = some (.int .i64 (m2 0)) ∧ w'.cell? ⟨G2, 1, none⟩ = some (.int .i64 (m2 1)) ∧ w'.cell? ⟨G2, 2, none⟩ = some (.int .i64 (m2 2)) ∧ w'.cell? ⟨G2, 3, none⟩ = some (.int .i64 (m2 3)) ∧ w'.cell? ⟨G2, 4, none⟩ = some (.int .i64 (m2 4)) ∧ w'.cell? ⟨G2, 5, none⟩ = some (.int .i64 (m2 5)) ∧ w'.cell? ⟨G2, 6, none⟩ = some (.int .i64 (m2 6)) ∧ w'.cell? ⟨G2, 7, none⟩ = some (.int .u64 (m2 7)) ∧ w'.cell? ⟨G2, 8, none⟩ = some (.int .u64 (m2 8)) ∧ w'.cell? ⟨G2, 9, none⟩ = some (.int .u64 (m2 9)) ∧ w'.cell? ⟨G2, 10, none⟩ = some (.int .u64 (m2 10)) ∧ w'.cell? ⟨G2, 11, none⟩ = some (.int .u64 (m2 11))) ∧ (w'.cell? ⟨G, 0, none⟩ = some (.int .i64 (m 0)) ∧ w'.cell? ⟨G, 1, none⟩ = some (.int .i64 (m 1)) ∧ w'.cell? ⟨G, 2, none⟩ = some (.int .i64 (m 2)) ∧ w'.cell? ⟨G, 3, none⟩ = some (.int .i64 (m 3)) ∧ w'.cell? ⟨G, 4, none⟩ = some (.int .i64 (m 4)) ∧ w'.cell? ⟨G, 5, none⟩ = some (.int .i64 (m 5)) ∧ w'.cell? ⟨G, 6, none⟩ = some (.int .i64 (m 6)) ∧ w'.cell? ⟨G, 7, none⟩ = some (.int .u64 (m 7)) ∧ w'.cell? ⟨G, 8, none⟩ = some (.int .u64 (m 8)) ∧ w'.cell? ⟨G, 9, none⟩ = some (.int .u64 (m 9)) ∧ w'.cell? ⟨G, 10, none⟩ = some (.int .u64 (m 10)) ∧ w'.cell? ⟨G, 11, none⟩ = some (.int .u64 (m 11))) ∧ w'.cell? ⟨H, 3, none⟩ = some (.int .u64 (x 2))) (first | exact ⟨hB3.drew, hp3.drew.c12, ho3.drew.c12, hkc⟩ | exact ⟨hB4, hp4.c12, ho4.c12, hkc4⟩ | exact ⟨hB3, hp3.c12, ho3.c12, hkc⟩) ((go_at_call 10; refine (awake28 _).mono ?_; rintro e w3 ⟨rfl, hb3⟩; have hB4 := hB3.drew.trans (hb3.mono (show H ≤ W3.heap.size from Nat.le_of_lt hHl)); have hp4 := blk_call hp3.drew hb3; have ho4 := blk_call ho3.drew hb3; have hkc4 := (cell_below hb3 (b := H) (o := 3) hHl).trans hkc))
          all_goals
            go_wp2
            go_ret
            exact ⟨rfl, by rw [HH.out]; assumption⟩
        · obtain rfl := hv2.out hc2
          have q3 := eq3 0 0 0 0 0 0
          have q4 := eq4 0 0 0 0 0 0 0 0
          have dv : (v != x 2) = true := by simpa using hv
          clear hv hv0 hv1 hv2
          go_wp2_with fail
          refine (awake28 _).mono ?_
          rintro e w3 ⟨rfl, hb3⟩
          go_wp2_with fail
          go_ret
          exact ⟨rfl, by rw [HH.out]; exact (hB2.alloc (by omega) _).trans (hb3.mono (by simp; omega))⟩
    · obtain ⟨n0, n1, n2, n3, n4, n5, n6⟩ := hk2.c7
      go_wp2_with fail
      refine (decode_any op (fun i => if i = 3 then v else x i) _ (y_u HX.out HWV.out 3)).mono ?_
      rintro e w2 ⟨rfl, hb2⟩
      have hzz := hb2.size
      simp only [World.size_alloc] at hzz
      have hHw2 : H < w2.heap.size := by omega
      have hne2 : ¬ H = w2.heap.size := by omega
      have hk3 := blk_call (hk2.alloc _) hb2
      have ho3' := blk_call (ho2.alloc _) hb2
      have hB2 : Below H w w2 := HS.out _ _ hb2
      have hkc' : w2.cell? ⟨H, 4, none⟩ = some (.int .u64 (x 3)) := hk3.cell 4
      obtain ⟨m2, hm2⟩ : ∃ m2, (decV op (fun i => if i = 3 then v else x i)).1 = m2 := ⟨_, rfl⟩
      obtain ⟨c2, hc2⟩ : ∃ c2, (decV op (fun i => if i = 3 then v else x i)).2 = c2 := ⟨_, rfl⟩
      rw [hm2, hc2, ordA_def m2]
      have hp3' := Blk.new w2 29 #[.int .i64 (m2 0), .int .i64 (m2 1), .int .i64 (m2 2), .int .i64 (m2 3), .int .i64 (m2 4), .int .i64 (m2 5), .int .i64 (m2 6), .int .u64 (m2 7), .int .u64 (m2 8), .int .u64 (m2 9), .int .u64 (m2 10), .int .u64 (m2 11)]
      have HM2 := hide hm2
      have HC2 := hide hc2
      have HN := hide n0
      have hv0 : Hid (v = x 3 → c2 = 0 ∧ m2 = m) := hide fun e => by
        rw [← hc2, ← hm2, y_same e, HCo.out, HM.out]
        exact ⟨rfl, rfl⟩
      have hv1 : Hid (¬ v = x 3 → c2 = 0 → ordB m2 m = false) := hide fun e h2 => by
        rw [← hm2, ← HM.out]
        exact y_other (by decide) e HCo.out (hc2.trans h2)
      have hv2 : Hid (¬ c2 = 0 → m2 = fun _ => 0) := hide fun e => by
        rw [← hm2]
        exact decV_bad (by rw [hc2]; exact e)
      clear hm2 hc2 HN n0 n1 n2 n3 n4 n5 n6 hb2
      by_cases hv : v = x 3
      · obtain ⟨rfl, rfl⟩ := hv0.out hv
        have qb := ordB_self m2
        have q : ∀ w, (Op.equalIn 10000 29 (.agg #[.int .i64 (m2 0), .int .i64 (m2 1), .int .i64 (m2 2), .int .i64 (m2 3), .int .i64 (m2 4), .int .i64 (m2 5), .int .i64 (m2 6), .int .u64 (m2 7), .int .u64 (m2 8), .int .u64 (m2 9), .int .u64 (m2 10), .int .u64 (m2 11)]) (.agg #[.int .i64 (m2 0), .int .i64 (m2 1), .int .i64 (m2 2), .int .i64 (m2 3), .int .i64 (m2 4), .int .i64 (m2 5), .int .i64 (m2 6), .int .u64 (m2 7), .int .u64 (m2 8), .int .u64 (m2 9), .int .u64 (m2 10), .int .u64 (m2 11)])).run Try.prog w = .ok true w := fun w => by rw [← qb]; exact ord_eqA m2 m2 w
        have dv : (v == x 3) = true := by simpa using hv
        clear hv qb hv0 hv1 hv2
        go_wp2
        have ho3 := ho3'.alloc (.cells #[.int .i64 (m2 0), .int .i64 (m2 1), .int .i64 (m2 2), .int .i64 (m2 3), .int .i64 (m2 4), .int .i64 (m2 5), .int .i64 (m2 6), .int .u64 (m2 7), .int .u64 (m2 8), .int .u64 (m2 9), .int .u64 (m2 10), .int .u64 (m2 11)] 29)
        have hkc := (hk3.alloc (.cells #[.int .i64 (m2 0), .int .i64 (m2 1), .int .i64 (m2 2), .int .i64 (m2 3), .int .i64 (m2 4), .int .i64 (m2 5), .int .i64 (m2 6), .int .u64 (m2 7), .int .u64 (m2 8), .int .u64 (m2 9), .int .u64 (m2 10), .int .u64 (m2 11)] 29)).cell 4
        have hB3 := hB2.alloc (by omega) (.cells #[.int .i64 (m2 0), .int .i64 (m2 1), .int .i64 (m2 2), .int .i64 (m2 3), .int .i64 (m2 4), .int .i64 (m2 5), .int .i64 (m2 6), .int .u64 (m2 7), .int .u64 (m2 8), .int .u64 (m2 9), .int .u64 (m2 10), .int .u64 (m2 11)] 29)
        have hHl : H < (w2.alloc (.cells #[.int .i64 (m2 0), .int .i64 (m2 1), .int .i64 (m2 2), .int .i64 (m2 3), .int .i64 (m2 4), .int .i64 (m2 5), .int .i64 (m2 6), .int .u64 (m2 7), .int .u64 (m2 8), .int .u64 (m2 9), .int .u64 (m2 10), .int .u64 (m2 11)] 29)).heap.size := by simp; omega
        have hp3 := hp3'
        clear hp3' ho3' hkc' hB2 hk3
        generalize w2.heap.size = G2 at *
        generalize w1.heap.size = G at *
        generalize w2.alloc (.cells #[.int .i64 (m2 0), .int .i64 (m2 1), .int .i64 (m2 2), .int .i64 (m2 3), .int .i64 (m2 4), .int .i64 (m2 5), .int .i64 (m2 6), .int .u64 (m2 7), .int .u64 (m2 8), .int .u64 (m2 9), .int .u64 (m2 10), .int .u64 (m2 11)] 29) = W3 at *
        simp only [List.getElem?_toArray, List.getElem?_cons_succ, List.getElem?_cons_zero] at hkc
        go_region_held3 (fun w' => Below H w w' ∧ (w'.cell? ⟨G2, 0, none⟩ = some (.int .i64 (m2 0)) ∧ w'.cell? ⟨G2, 1, none⟩ = some (.int .i64 (m2 1)) ∧ w'.cell? ⟨G2, 2, none⟩ = some (.int .i64 (m2 2)) ∧ w'.cell? ⟨G2, 3, none⟩ = some (.int .i64 (m2 3)) ∧ w'.cell? ⟨G2, 4, none⟩ = some (.int .i64 (m2 4)) ∧ w'.cell? ⟨G2, 5, none⟩ = some (.int .i64 (m2 5)) ∧ w'.cell? ⟨G2, 6, none⟩ = some (.int .i64 (m2 6)) ∧ w'.cell? ⟨G2, 7, none⟩ = some (.int .u64 (m2 7)) ∧ w'.cell? ⟨G2, 8, none⟩ = some (.int .u64 (m2 8)) ∧ w'.cell? ⟨G2, 9, none⟩ = some (.int .u64 (m2 9)) ∧ w'.cell? ⟨G2, 10, none⟩ = some (.int .u64 (m2 10)) ∧ w'.cell? ⟨G2, 11, none⟩ = some (.int .u64 (m2 11))) ∧ (w'.cell? ⟨G, 0, none⟩ = some (.int .i64 (m2 0)) ∧ w'.cell? ⟨G, 1, none⟩ = some (.int .i64 (m2 1)) ∧ w'.cell? ⟨G, 2, none⟩ = some (.int .i64 (m2 2)) ∧ w'.cell? ⟨G, 3, none⟩ = some (.int .i64 (m2 3)) ∧ w'.cell? ⟨G, 4, none⟩ = some (.int .i64 (m2 4)) ∧ w'.cell? ⟨G, 5, none⟩ = some (.int .i64 (m2 5)) ∧ w'.cell? ⟨G, 6, none⟩ = some (.int .i64 (m2 6)) ∧ w'.cell? ⟨G, 7, none⟩ = some (.int .u64 (m2 7)) ∧ w'.cell? ⟨G, 8, none⟩ = some (.int .u64 (m2 8)) ∧ w'.cell? ⟨G, 9, none⟩ = some (.int .u64 (m2 9)) ∧ w'.cell? ⟨G, 10, none⟩ = some (.int .u64 (m2 10)) ∧ w'.cell? ⟨G, 11, none⟩ = some (.int .u64 (m2 11))) ∧ w'.cell? ⟨H, 4, none⟩ = some (.int .u64 (x 3))) (first | exact ⟨hB3.drew, hp3.drew.c12, ho3.drew.c12, hkc⟩ | exact ⟨hB4, hp4.c12, ho4.c12, hkc4⟩ | exact ⟨hB3, hp3.c12, ho3.c12, hkc⟩) ((go_at_call 10; refine (awake28 _).mono ?_; rintro e w3 ⟨rfl, hb3⟩; have hB4 := hB3.drew.trans (hb3.mono (show H ≤ W3.heap.size from Nat.le_of_lt hHl)); have hp4 := blk_call hp3.drew hb3; have ho4 := blk_call ho3.drew hb3; have hkc4 := (cell_below hb3 (b := H) (o := 4) hHl).trans hkc))
        all_goals
          go_wp2
          go_ret
          exact ⟨rfl, by rw [HH.out]; assumption⟩
      · by_cases hc2 : c2 = 0
        · have qb := hv1.out hv hc2
          subst hc2
          have q : ∀ w, (Op.equalIn 10000 29 (.agg #[.int .i64 (m2 0), .int .i64 (m2 1), .int .i64 (m2 2), .int .i64 (m2 3), .int .i64 (m2 4), .int .i64 (m2 5), .int .i64 (m2 6), .int .u64 (m2 7), .int .u64 (m2 8), .int .u64 (m2 9), .int .u64 (m2 10), .int .u64 (m2 11)]) (.agg #[.int .i64 (m 0), .int .i64 (m 1), .int .i64 (m 2), .int .i64 (m 3), .int .i64 (m 4), .int .i64 (m 5), .int .i64 (m 6), .int .u64 (m 7), .int .u64 (m 8), .int .u64 (m 9), .int .u64 (m 10), .int .u64 (m 11)])).run Try.prog w = .ok false w := fun w => by rw [← qb]; exact ord_eqA m2 m w
          have dv : (v == x 3) = false := by simpa using hv
          clear hv qb hv0 hv1 hv2
          go_wp2
          have ho3 := ho3'.alloc (.cells #[.int .i64 (m2 0), .int .i64 (m2 1), .int .i64 (m2 2), .int .i64 (m2 3), .int .i64 (m2 4), .int .i64 (m2 5), .int .i64 (m2 6), .int .u64 (m2 7), .int .u64 (m2 8), .int .u64 (m2 9), .int .u64 (m2 10), .int .u64 (m2 11)] 29)
          have hkc := (hk3.alloc (.cells #[.int .i64 (m2 0), .int .i64 (m2 1), .int .i64 (m2 2), .int .i64 (m2 3), .int .i64 (m2 4), .int .i64 (m2 5), .int .i64 (m2 6), .int .u64 (m2 7), .int .u64 (m2 8), .int .u64 (m2 9), .int .u64 (m2 10), .int .u64 (m2 11)] 29)).cell 4
          have hB3 := hB2.alloc (by omega) (.cells #[.int .i64 (m2 0), .int .i64 (m2 1), .int .i64 (m2 2), .int .i64 (m2 3), .int .i64 (m2 4), .int .i64 (m2 5), .int .i64 (m2 6), .int .u64 (m2 7), .int .u64 (m2 8), .int .u64 (m2 9), .int .u64 (m2 10), .int .u64 (m2 11)] 29)
          have hHl : H < (w2.alloc (.cells #[.int .i64 (m2 0), .int .i64 (m2 1), .int .i64 (m2 2), .int .i64 (m2 3), .int .i64 (m2 4), .int .i64 (m2 5), .int .i64 (m2 6), .int .u64 (m2 7), .int .u64 (m2 8), .int .u64 (m2 9), .int .u64 (m2 10), .int .u64 (m2 11)] 29)).heap.size := by simp; omega
          have hp3 := hp3'
          clear hp3' ho3' hkc' hB2 hk3
          generalize w2.heap.size = G2 at *
          generalize w1.heap.size = G at *
          generalize w2.alloc (.cells #[.int .i64 (m2 0), .int .i64 (m2 1), .int .i64 (m2 2), .int .i64 (m2 3), .int .i64 (m2 4), .int .i64 (m2 5), .int .i64 (m2 6), .int .u64 (m2 7), .int .u64 (m2 8), .int .u64 (m2 9), .int .u64 (m2 10), .int .u64 (m2 11)] 29) = W3 at *
          simp only [List.getElem?_toArray, List.getElem?_cons_succ, List.getElem?_cons_zero] at hkc
          go_region_held3 (fun w' => Below H w w' ∧ (w'.cell? ⟨G2, 0, none⟩ = some (.int .i64 (m2 0)) ∧ w'.cell? ⟨G2, 1, none⟩ = some (.int .i64 (m2 1)) ∧ w'.cell? ⟨G2, 2, none⟩ = some (.int .i64 (m2 2)) ∧ w'.cell? ⟨G2, 3, none⟩ = some (.int .i64 (m2 3)) ∧ w'.cell? ⟨G2, 4, none⟩ = some (.int .i64 (m2 4)) ∧ w'.cell? ⟨G2, 5, none⟩ = some (.int .i64 (m2 5)) ∧ w'.cell? ⟨G2, 6, none⟩ = some (.int .i64 (m2 6)) ∧ w'.cell? ⟨G2, 7, none⟩ = some (.int .u64 (m2 7)) ∧ w'.cell? ⟨G2, 8, none⟩ = some (.int .u64 (m2 8)) ∧ w'.cell? ⟨G2, 9, none⟩ = some (.int .u64 (m2 9)) ∧ w'.cell? ⟨G2, 10, none⟩ = some (.int .u64 (m2 10)) ∧ w'.cell? ⟨G2, 11, none⟩ = some (.int .u64 (m2 11))) ∧ (w'.cell? ⟨G, 0, none⟩ = some (.int .i64 (m 0)) ∧ w'.cell? ⟨G, 1, none⟩ = some (.int .i64 (m 1)) ∧ w'.cell? ⟨G, 2, none⟩ = some (.int .i64 (m 2)) ∧ w'.cell? ⟨G, 3, none⟩ = some (.int .i64 (m 3)) ∧ w'.cell? ⟨G, 4, none⟩ = some (.int .i64 (m 4)) ∧ w'.cell? ⟨G, 5, none⟩ = some (.int .i64 (m 5)) ∧ w'.cell? ⟨G, 6, none⟩ = some (.int .i64 (m 6)) ∧ w'.cell? ⟨G, 7, none⟩ = some (.int .u64 (m 7)) ∧ w'.cell? ⟨G, 8, none⟩ = some (.int .u64 (m 8)) ∧ w'.cell? ⟨G, 9, none⟩ = some (.int .u64 (m 9)) ∧ w'.cell? ⟨G, 10, none⟩ = some (.int .u64 (m 10)) ∧ w'.cell? ⟨G, 11, none⟩ = some (.int .u64 (m 11))) ∧ w'.cell? ⟨H, 4, none⟩ = some (.int .u64 (x 3))) (first | exact ⟨hB3.drew, hp3.drew.c12, ho3.drew.c12, hkc⟩ | exact ⟨hB4, hp4.c12, ho4.c12, hkc4⟩ | exact ⟨hB3, hp3.c12, ho3.c12, hkc⟩) ((go_at_call 10; refine (awake28 _).mono ?_; rintro e w3 ⟨rfl, hb3⟩; have hB4 := hB3.drew.trans (hb3.mono (show H ≤ W3.heap.size from Nat.le_of_lt hHl)); have hp4 := blk_call hp3.drew hb3; have ho4 := blk_call ho3.drew hb3; have hkc4 := (cell_below hb3 (b := H) (o := 4) hHl).trans hkc))
          all_goals
            go_wp2
            go_ret
            exact ⟨rfl, by rw [HH.out]; assumption⟩
        · obtain rfl := hv2.out hc2
          have q3 := eq3 0 0 0 0 0 0
          have q4 := eq4 0 0 0 0 0 0 0 0
          have dv : (v != x 3) = true := by simpa using hv
          clear hv hv0 hv1 hv2
          go_wp2_with fail
          refine (awake28 _).mono ?_
          rintro e w3 ⟨rfl, hb3⟩
          go_wp2_with fail
          go_ret
          exact ⟨rfl, by rw [HH.out]; exact (hB2.alloc (by omega) _).trans (hb3.mono (by simp; omega))⟩
    · obtain ⟨n0, n1, n2, n3, n4, n5, n6⟩ := hk2.c7
      go_wp2_with fail
      refine (decode_any op (fun i => if i = 4 then v else x i) _ (y_u HX.out HWV.out 4)).mono ?_
      rintro e w2 ⟨rfl, hb2⟩
      have hzz := hb2.size
      simp only [World.size_alloc] at hzz
      have hHw2 : H < w2.heap.size := by omega
      have hne2 : ¬ H = w2.heap.size := by omega
      have hk3 := blk_call (hk2.alloc _) hb2
      have ho3' := blk_call (ho2.alloc _) hb2
      have hB2 : Below H w w2 := HS.out _ _ hb2
      have hkc' : w2.cell? ⟨H, 5, none⟩ = some (.int .u64 (x 4)) := hk3.cell 5
      obtain ⟨m2, hm2⟩ : ∃ m2, (decV op (fun i => if i = 4 then v else x i)).1 = m2 := ⟨_, rfl⟩
      obtain ⟨c2, hc2⟩ : ∃ c2, (decV op (fun i => if i = 4 then v else x i)).2 = c2 := ⟨_, rfl⟩
      rw [hm2, hc2, ordA_def m2]
      have hp3' := Blk.new w2 29 #[.int .i64 (m2 0), .int .i64 (m2 1), .int .i64 (m2 2), .int .i64 (m2 3), .int .i64 (m2 4), .int .i64 (m2 5), .int .i64 (m2 6), .int .u64 (m2 7), .int .u64 (m2 8), .int .u64 (m2 9), .int .u64 (m2 10), .int .u64 (m2 11)]
      have HM2 := hide hm2
      have HC2 := hide hc2
      have HN := hide n0
      have hv0 : Hid (v = x 4 → c2 = 0 ∧ m2 = m) := hide fun e => by
        rw [← hc2, ← hm2, y_same e, HCo.out, HM.out]
        exact ⟨rfl, rfl⟩
      have hv1 : Hid (¬ v = x 4 → c2 = 0 → ordB m2 m = false) := hide fun e h2 => by
        rw [← hm2, ← HM.out]
        exact y_other (by decide) e HCo.out (hc2.trans h2)
      have hv2 : Hid (¬ c2 = 0 → m2 = fun _ => 0) := hide fun e => by
        rw [← hm2]
        exact decV_bad (by rw [hc2]; exact e)
      clear hm2 hc2 HN n0 n1 n2 n3 n4 n5 n6 hb2
      by_cases hv : v = x 4
      · obtain ⟨rfl, rfl⟩ := hv0.out hv
        have qb := ordB_self m2
        have q : ∀ w, (Op.equalIn 10000 29 (.agg #[.int .i64 (m2 0), .int .i64 (m2 1), .int .i64 (m2 2), .int .i64 (m2 3), .int .i64 (m2 4), .int .i64 (m2 5), .int .i64 (m2 6), .int .u64 (m2 7), .int .u64 (m2 8), .int .u64 (m2 9), .int .u64 (m2 10), .int .u64 (m2 11)]) (.agg #[.int .i64 (m2 0), .int .i64 (m2 1), .int .i64 (m2 2), .int .i64 (m2 3), .int .i64 (m2 4), .int .i64 (m2 5), .int .i64 (m2 6), .int .u64 (m2 7), .int .u64 (m2 8), .int .u64 (m2 9), .int .u64 (m2 10), .int .u64 (m2 11)])).run Try.prog w = .ok true w := fun w => by rw [← qb]; exact ord_eqA m2 m2 w
        have dv : (v == x 4) = true := by simpa using hv
        clear hv qb hv0 hv1 hv2
        go_wp2
        have ho3 := ho3'.alloc (.cells #[.int .i64 (m2 0), .int .i64 (m2 1), .int .i64 (m2 2), .int .i64 (m2 3), .int .i64 (m2 4), .int .i64 (m2 5), .int .i64 (m2 6), .int .u64 (m2 7), .int .u64 (m2 8), .int .u64 (m2 9), .int .u64 (m2 10), .int .u64 (m2 11)] 29)
        have hkc := (hk3.alloc (.cells #[.int .i64 (m2 0), .int .i64 (m2 1), .int .i64 (m2 2), .int .i64 (m2 3), .int .i64 (m2 4), .int .i64 (m2 5), .int .i64 (m2 6), .int .u64 (m2 7), .int .u64 (m2 8), .int .u64 (m2 9), .int .u64 (m2 10), .int .u64 (m2 11)] 29)).cell 5
        have hB3 := hB2.alloc (by omega) (.cells #[.int .i64 (m2 0), .int .i64 (m2 1), .int .i64 (m2 2), .int .i64 (m2 3), .int .i64 (m2 4), .int .i64 (m2 5), .int .i64 (m2 6), .int .u64 (m2 7), .int .u64 (m2 8), .int .u64 (m2 9), .int .u64 (m2 10), .int .u64 (m2 11)] 29)
        have hHl : H < (w2.alloc (.cells #[.int .i64 (m2 0), .int .i64 (m2 1), .int .i64 (m2 2), .int .i64 (m2 3), .int .i64 (m2 4), .int .i64 (m2 5), .int .i64 (m2 6), .int .u64 (m2 7), .int .u64 (m2 8), .int .u64 (m2 9), .int .u64 (m2 10), .int .u64 (m2 11)] 29)).heap.size := by simp; omega
        have hp3 := hp3'
        clear hp3' ho3' hkc' hB2 hk3
        generalize w2.heap.size = G2 at *
        generalize w1.heap.size = G at *
        generalize w2.alloc (.cells #[.int .i64 (m2 0), .int .i64 (m2 1), .int .i64 (m2 2), .int .i64 (m2 3), .int .i64 (m2 4), .int .i64 (m2 5), .int .i64 (m2 6), .int .u64 (m2 7), .int .u64 (m2 8), .int .u64 (m2 9), .int .u64 (m2 10), .int .u64 (m2 11)] 29) = W3 at *
        simp only [List.getElem?_toArray, List.getElem?_cons_succ, List.getElem?_cons_zero] at hkc
        go_region_held3 (fun w' => Below H w w' ∧ (w'.cell? ⟨G2, 0, none⟩ = some (.int .i64 (m2 0)) ∧ w'.cell? ⟨G2, 1, none⟩ = some (.int .i64 (m2 1)) ∧ w'.cell? ⟨G2, 2, none⟩ = some (.int .i64 (m2 2)) ∧ w'.cell? ⟨G2, 3, none⟩ = some (.int .i64 (m2 3)) ∧ w'.cell? ⟨G2, 4, none⟩ = some (.int .i64 (m2 4)) ∧ w'.cell? ⟨G2, 5, none⟩ = some (.int .i64 (m2 5)) ∧ w'.cell? ⟨G2, 6, none⟩ = some (.int .i64 (m2 6)) ∧ w'.cell? ⟨G2, 7, none⟩ = some (.int .u64 (m2 7)) ∧ w'.cell? ⟨G2, 8, none⟩ = some (.int .u64 (m2 8)) ∧ w'.cell? ⟨G2, 9, none⟩ = some (.int .u64 (m2 9)) ∧ w'.cell? ⟨G2, 10, none⟩ = some (.int .u64 (m2 10)) ∧ w'.cell? ⟨G2, 11, none⟩ = some (.int .u64 (m2 11))) ∧ (w'.cell? ⟨G, 0, none⟩ = some (.int .i64 (m2 0)) ∧ w'.cell? ⟨G, 1, none⟩ = some (.int .i64 (m2 1)) ∧ w'.cell? ⟨G, 2, none⟩ = some (.int .i64 (m2 2)) ∧ w'.cell? ⟨G, 3, none⟩ = some (.int .i64 (m2 3)) ∧ w'.cell? ⟨G, 4, none⟩ = some (.int .i64 (m2 4)) ∧ w'.cell? ⟨G, 5, none⟩ = some (.int .i64 (m2 5)) ∧ w'.cell? ⟨G, 6, none⟩ = some (.int .i64 (m2 6)) ∧ w'.cell? ⟨G, 7, none⟩ = some (.int .u64 (m2 7)) ∧ w'.cell? ⟨G, 8, none⟩ = some (.int .u64 (m2 8)) ∧ w'.cell? ⟨G, 9, none⟩ = some (.int .u64 (m2 9)) ∧ w'.cell? ⟨G, 10, none⟩ = some (.int .u64 (m2 10)) ∧ w'.cell? ⟨G, 11, none⟩ = some (.int .u64 (m2 11))) ∧ w'.cell? ⟨H, 5, none⟩ = some (.int .u64 (x 4))) (first | exact ⟨hB3.drew, hp3.drew.c12, ho3.drew.c12, hkc⟩ | exact ⟨hB4, hp4.c12, ho4.c12, hkc4⟩ | exact ⟨hB3, hp3.c12, ho3.c12, hkc⟩) ((go_at_call 10; refine (awake28 _).mono ?_; rintro e w3 ⟨rfl, hb3⟩; have hB4 := hB3.drew.trans (hb3.mono (show H ≤ W3.heap.size from Nat.le_of_lt hHl)); have hp4 := blk_call hp3.drew hb3; have ho4 := blk_call ho3.drew hb3; have hkc4 := (cell_below hb3 (b := H) (o := 5) hHl).trans hkc))
        all_goals
          go_wp2
          go_ret
          exact ⟨rfl, by rw [HH.out]; assumption⟩
      · by_cases hc2 : c2 = 0
        · have qb := hv1.out hv hc2
          subst hc2
          have q : ∀ w, (Op.equalIn 10000 29 (.agg #[.int .i64 (m2 0), .int .i64 (m2 1), .int .i64 (m2 2), .int .i64 (m2 3), .int .i64 (m2 4), .int .i64 (m2 5), .int .i64 (m2 6), .int .u64 (m2 7), .int .u64 (m2 8), .int .u64 (m2 9), .int .u64 (m2 10), .int .u64 (m2 11)]) (.agg #[.int .i64 (m 0), .int .i64 (m 1), .int .i64 (m 2), .int .i64 (m 3), .int .i64 (m 4), .int .i64 (m 5), .int .i64 (m 6), .int .u64 (m 7), .int .u64 (m 8), .int .u64 (m 9), .int .u64 (m 10), .int .u64 (m 11)])).run Try.prog w = .ok false w := fun w => by rw [← qb]; exact ord_eqA m2 m w
          have dv : (v == x 4) = false := by simpa using hv
          clear hv qb hv0 hv1 hv2
          go_wp2
          have ho3 := ho3'.alloc (.cells #[.int .i64 (m2 0), .int .i64 (m2 1), .int .i64 (m2 2), .int .i64 (m2 3), .int .i64 (m2 4), .int .i64 (m2 5), .int .i64 (m2 6), .int .u64 (m2 7), .int .u64 (m2 8), .int .u64 (m2 9), .int .u64 (m2 10), .int .u64 (m2 11)] 29)
          have hkc := (hk3.alloc (.cells #[.int .i64 (m2 0), .int .i64 (m2 1), .int .i64 (m2 2), .int .i64 (m2 3), .int .i64 (m2 4), .int .i64 (m2 5), .int .i64 (m2 6), .int .u64 (m2 7), .int .u64 (m2 8), .int .u64 (m2 9), .int .u64 (m2 10), .int .u64 (m2 11)] 29)).cell 5
          have hB3 := hB2.alloc (by omega) (.cells #[.int .i64 (m2 0), .int .i64 (m2 1), .int .i64 (m2 2), .int .i64 (m2 3), .int .i64 (m2 4), .int .i64 (m2 5), .int .i64 (m2 6), .int .u64 (m2 7), .int .u64 (m2 8), .int .u64 (m2 9), .int .u64 (m2 10), .int .u64 (m2 11)] 29)
          have hHl : H < (w2.alloc (.cells #[.int .i64 (m2 0), .int .i64 (m2 1), .int .i64 (m2 2), .int .i64 (m2 3), .int .i64 (m2 4), .int .i64 (m2 5), .int .i64 (m2 6), .int .u64 (m2 7), .int .u64 (m2 8), .int .u64 (m2 9), .int .u64 (m2 10), .int .u64 (m2 11)] 29)).heap.size := by simp; omega
          have hp3 := hp3'
          clear hp3' ho3' hkc' hB2 hk3
          generalize w2.heap.size = G2 at *
          generalize w1.heap.size = G at *
          generalize w2.alloc (.cells #[.int .i64 (m2 0), .int .i64 (m2 1), .int .i64 (m2 2), .int .i64 (m2 3), .int .i64 (m2 4), .int .i64 (m2 5), .int .i64 (m2 6), .int .u64 (m2 7), .int .u64 (m2 8), .int .u64 (m2 9), .int .u64 (m2 10), .int .u64 (m2 11)] 29) = W3 at *
          simp only [List.getElem?_toArray, List.getElem?_cons_succ, List.getElem?_cons_zero] at hkc
          go_region_held3 (fun w' => Below H w w' ∧ (w'.cell? ⟨G2, 0, none⟩ = some (.int .i64 (m2 0)) ∧ w'.cell? ⟨G2, 1, none⟩ = some (.int .i64 (m2 1)) ∧ w'.cell? ⟨G2, 2, none⟩ = some (.int .i64 (m2 2)) ∧ w'.cell? ⟨G2, 3, none⟩ = some (.int .i64 (m2 3)) ∧ w'.cell? ⟨G2, 4, none⟩ = some (.int .i64 (m2 4)) ∧ w'.cell? ⟨G2, 5, none⟩ = some (.int .i64 (m2 5)) ∧ w'.cell? ⟨G2, 6, none⟩ = some (.int .i64 (m2 6)) ∧ w'.cell? ⟨G2, 7, none⟩ = some (.int .u64 (m2 7)) ∧ w'.cell? ⟨G2, 8, none⟩ = some (.int .u64 (m2 8)) ∧ w'.cell? ⟨G2, 9, none⟩ = some (.int .u64 (m2 9)) ∧ w'.cell? ⟨G2, 10, none⟩ = some (.int .u64 (m2 10)) ∧ w'.cell? ⟨G2, 11, none⟩ = some (.int .u64 (m2 11))) ∧ (w'.cell? ⟨G, 0, none⟩ = some (.int .i64 (m 0)) ∧ w'.cell? ⟨G, 1, none⟩ = some (.int .i64 (m 1)) ∧ w'.cell? ⟨G, 2, none⟩ = some (.int .i64 (m 2)) ∧ w'.cell? ⟨G, 3, none⟩ = some (.int .i64 (m 3)) ∧ w'.cell? ⟨G, 4, none⟩ = some (.int .i64 (m 4)) ∧ w'.cell? ⟨G, 5, none⟩ = some (.int .i64 (m 5)) ∧ w'.cell? ⟨G, 6, none⟩ = some (.int .i64 (m 6)) ∧ w'.cell? ⟨G, 7, none⟩ = some (.int .u64 (m 7)) ∧ w'.cell? ⟨G, 8, none⟩ = some (.int .u64 (m 8)) ∧ w'.cell? ⟨G, 9, none⟩ = some (.int .u64 (m 9)) ∧ w'.cell? ⟨G, 10, none⟩ = some (.int .u64 (m 10)) ∧ w'.cell? ⟨G, 11, none⟩ = some (.int .u64 (m 11))) ∧ w'.cell? ⟨H, 5, none⟩ = some (.int .u64 (x 4))) (first | exact ⟨hB3.drew, hp3.drew.c12, ho3.drew.c12, hkc⟩ | exact ⟨hB4, hp4.c12, ho4.c12, hkc4⟩ | exact ⟨hB3, hp3.c12, ho3.c12, hkc⟩) ((go_at_call 10; refine (awake28 _).mono ?_; rintro e w3 ⟨rfl, hb3⟩; have hB4 := hB3.drew.trans (hb3.mono (show H ≤ W3.heap.size from Nat.le_of_lt hHl)); have hp4 := blk_call hp3.drew hb3; have ho4 := blk_call ho3.drew hb3; have hkc4 := (cell_below hb3 (b := H) (o := 5) hHl).trans hkc))
          all_goals
            go_wp2
            go_ret
            exact ⟨rfl, by rw [HH.out]; assumption⟩
        · obtain rfl := hv2.out hc2
          have q3 := eq3 0 0 0 0 0 0
          have q4 := eq4 0 0 0 0 0 0 0 0
          have dv : (v != x 4) = true := by simpa using hv
          clear hv hv0 hv1 hv2
          go_wp2_with fail
          refine (awake28 _).mono ?_
          rintro e w3 ⟨rfl, hb3⟩
          go_wp2_with fail
          go_ret
          exact ⟨rfl, by rw [HH.out]; exact (hB2.alloc (by omega) _).trans (hb3.mono (by simp; omega))⟩
    · obtain ⟨n0, n1, n2, n3, n4, n5, n6⟩ := hk2.c7
      go_wp2_with fail
      refine (decode_any op (fun i => if i = 5 then v else x i) _ (y_u HX.out HWV.out 5)).mono ?_
      rintro e w2 ⟨rfl, hb2⟩
      have hzz := hb2.size
      simp only [World.size_alloc] at hzz
      have hHw2 : H < w2.heap.size := by omega
      have hne2 : ¬ H = w2.heap.size := by omega
      have hk3 := blk_call (hk2.alloc _) hb2
      have ho3' := blk_call (ho2.alloc _) hb2
      have hB2 : Below H w w2 := HS.out _ _ hb2
      have hkc' : w2.cell? ⟨H, 6, none⟩ = some (.int .u64 (x 5)) := hk3.cell 6
      obtain ⟨m2, hm2⟩ : ∃ m2, (decV op (fun i => if i = 5 then v else x i)).1 = m2 := ⟨_, rfl⟩
      obtain ⟨c2, hc2⟩ : ∃ c2, (decV op (fun i => if i = 5 then v else x i)).2 = c2 := ⟨_, rfl⟩
      rw [hm2, hc2, ordA_def m2]
      have hp3' := Blk.new w2 29 #[.int .i64 (m2 0), .int .i64 (m2 1), .int .i64 (m2 2), .int .i64 (m2 3), .int .i64 (m2 4), .int .i64 (m2 5), .int .i64 (m2 6), .int .u64 (m2 7), .int .u64 (m2 8), .int .u64 (m2 9), .int .u64 (m2 10), .int .u64 (m2 11)]
      have HM2 := hide hm2
      have HC2 := hide hc2
      have HN := hide n0
      have hv0 : Hid (v = x 5 → c2 = 0 ∧ m2 = m) := hide fun e => by
        rw [← hc2, ← hm2, y_same e, HCo.out, HM.out]
        exact ⟨rfl, rfl⟩
      have hv1 : Hid (¬ v = x 5 → c2 = 0 → ordB m2 m = false) := hide fun e h2 => by
        rw [← hm2, ← HM.out]
        exact y_other (by decide) e HCo.out (hc2.trans h2)
      have hv2 : Hid (¬ c2 = 0 → m2 = fun _ => 0) := hide fun e => by
        rw [← hm2]
        exact decV_bad (by rw [hc2]; exact e)
      clear hm2 hc2 HN n0 n1 n2 n3 n4 n5 n6 hb2
      by_cases hv : v = x 5
      · obtain ⟨rfl, rfl⟩ := hv0.out hv
        have qb := ordB_self m2
        have q : ∀ w, (Op.equalIn 10000 29 (.agg #[.int .i64 (m2 0), .int .i64 (m2 1), .int .i64 (m2 2), .int .i64 (m2 3), .int .i64 (m2 4), .int .i64 (m2 5), .int .i64 (m2 6), .int .u64 (m2 7), .int .u64 (m2 8), .int .u64 (m2 9), .int .u64 (m2 10), .int .u64 (m2 11)]) (.agg #[.int .i64 (m2 0), .int .i64 (m2 1), .int .i64 (m2 2), .int .i64 (m2 3), .int .i64 (m2 4), .int .i64 (m2 5), .int .i64 (m2 6), .int .u64 (m2 7), .int .u64 (m2 8), .int .u64 (m2 9), .int .u64 (m2 10), .int .u64 (m2 11)])).run Try.prog w = .ok true w := fun w => by rw [← qb]; exact ord_eqA m2 m2 w
        have dv : (v == x 5) = true := by simpa using hv
        clear hv qb hv0 hv1 hv2
        go_wp2
        have ho3 := ho3'.alloc (.cells #[.int .i64 (m2 0), .int .i64 (m2 1), .int .i64 (m2 2), .int .i64 (m2 3), .int .i64 (m2 4), .int .i64 (m2 5), .int .i64 (m2 6), .int .u64 (m2 7), .int .u64 (m2 8), .int .u64 (m2 9), .int .u64 (m2 10), .int .u64 (m2 11)] 29)
        have hkc := (hk3.alloc (.cells #[.int .i64 (m2 0), .int .i64 (m2 1), .int .i64 (m2 2), .int .i64 (m2 3), .int .i64 (m2 4), .int .i64 (m2 5), .int .i64 (m2 6), .int .u64 (m2 7), .int .u64 (m2 8), .int .u64 (m2 9), .int .u64 (m2 10), .int .u64 (m2 11)] 29)).cell 6
        have hB3 := hB2.alloc (by omega) (.cells #[.int .i64 (m2 0), .int .i64 (m2 1), .int .i64 (m2 2), .int .i64 (m2 3), .int .i64 (m2 4), .int .i64 (m2 5), .int .i64 (m2 6), .int .u64 (m2 7), .int .u64 (m2 8), .int .u64 (m2 9), .int .u64 (m2 10), .int .u64 (m2 11)] 29)
        have hHl : H < (w2.alloc (.cells #[.int .i64 (m2 0), .int .i64 (m2 1), .int .i64 (m2 2), .int .i64 (m2 3), .int .i64 (m2 4), .int .i64 (m2 5), .int .i64 (m2 6), .int .u64 (m2 7), .int .u64 (m2 8), .int .u64 (m2 9), .int .u64 (m2 10), .int .u64 (m2 11)] 29)).heap.size := by simp; omega
        have hp3 := hp3'
        clear hp3' ho3' hkc' hB2 hk3
        generalize w2.heap.size = G2 at *
        generalize w1.heap.size = G at *
        generalize w2.alloc (.cells #[.int .i64 (m2 0), .int .i64 (m2 1), .int .i64 (m2 2), .int .i64 (m2 3), .int .i64 (m2 4), .int .i64 (m2 5), .int .i64 (m2 6), .int .u64 (m2 7), .int .u64 (m2 8), .int .u64 (m2 9), .int .u64 (m2 10), .int .u64 (m2 11)] 29) = W3 at *
        simp only [List.getElem?_toArray, List.getElem?_cons_succ, List.getElem?_cons_zero] at hkc
        go_region_held3 (fun w' => Below H w w' ∧ (w'.cell? ⟨G2, 0, none⟩ = some (.int .i64 (m2 0)) ∧ w'.cell? ⟨G2, 1, none⟩ = some (.int .i64 (m2 1)) ∧ w'.cell? ⟨G2, 2, none⟩ = some (.int .i64 (m2 2)) ∧ w'.cell? ⟨G2, 3, none⟩ = some (.int .i64 (m2 3)) ∧ w'.cell? ⟨G2, 4, none⟩ = some (.int .i64 (m2 4)) ∧ w'.cell? ⟨G2, 5, none⟩ = some (.int .i64 (m2 5)) ∧ w'.cell? ⟨G2, 6, none⟩ = some (.int .i64 (m2 6)) ∧ w'.cell? ⟨G2, 7, none⟩ = some (.int .u64 (m2 7)) ∧ w'.cell? ⟨G2, 8, none⟩ = some (.int .u64 (m2 8)) ∧ w'.cell? ⟨G2, 9, none⟩ = some (.int .u64 (m2 9)) ∧ w'.cell? ⟨G2, 10, none⟩ = some (.int .u64 (m2 10)) ∧ w'.cell? ⟨G2, 11, none⟩ = some (.int .u64 (m2 11))) ∧ (w'.cell? ⟨G, 0, none⟩ = some (.int .i64 (m2 0)) ∧ w'.cell? ⟨G, 1, none⟩ = some (.int .i64 (m2 1)) ∧ w'.cell? ⟨G, 2, none⟩ = some (.int .i64 (m2 2)) ∧ w'.cell? ⟨G, 3, none⟩ = some (.int .i64 (m2 3)) ∧ w'.cell? ⟨G, 4, none⟩ = some (.int .i64 (m2 4)) ∧ w'.cell? ⟨G, 5, none⟩ = some (.int .i64 (m2 5)) ∧ w'.cell? ⟨G, 6, none⟩ = some (.int .i64 (m2 6)) ∧ w'.cell? ⟨G, 7, none⟩ = some (.int .u64 (m2 7)) ∧ w'.cell? ⟨G, 8, none⟩ = some (.int .u64 (m2 8)) ∧ w'.cell? ⟨G, 9, none⟩ = some (.int .u64 (m2 9)) ∧ w'.cell? ⟨G, 10, none⟩ = some (.int .u64 (m2 10)) ∧ w'.cell? ⟨G, 11, none⟩ = some (.int .u64 (m2 11))) ∧ w'.cell? ⟨H, 6, none⟩ = some (.int .u64 (x 5))) (first | exact ⟨hB3.drew, hp3.drew.c12, ho3.drew.c12, hkc⟩ | exact ⟨hB4, hp4.c12, ho4.c12, hkc4⟩ | exact ⟨hB3, hp3.c12, ho3.c12, hkc⟩) ((go_at_call 10; refine (awake28 _).mono ?_; rintro e w3 ⟨rfl, hb3⟩; have hB4 := hB3.drew.trans (hb3.mono (show H ≤ W3.heap.size from Nat.le_of_lt hHl)); have hp4 := blk_call hp3.drew hb3; have ho4 := blk_call ho3.drew hb3; have hkc4 := (cell_below hb3 (b := H) (o := 6) hHl).trans hkc))
        all_goals
          go_wp2
          go_ret
          exact ⟨rfl, by rw [HH.out]; assumption⟩
      · by_cases hc2 : c2 = 0
        · have qb := hv1.out hv hc2
          subst hc2
          have q : ∀ w, (Op.equalIn 10000 29 (.agg #[.int .i64 (m2 0), .int .i64 (m2 1), .int .i64 (m2 2), .int .i64 (m2 3), .int .i64 (m2 4), .int .i64 (m2 5), .int .i64 (m2 6), .int .u64 (m2 7), .int .u64 (m2 8), .int .u64 (m2 9), .int .u64 (m2 10), .int .u64 (m2 11)]) (.agg #[.int .i64 (m 0), .int .i64 (m 1), .int .i64 (m 2), .int .i64 (m 3), .int .i64 (m 4), .int .i64 (m 5), .int .i64 (m 6), .int .u64 (m 7), .int .u64 (m 8), .int .u64 (m 9), .int .u64 (m 10), .int .u64 (m 11)])).run Try.prog w = .ok false w := fun w => by rw [← qb]; exact ord_eqA m2 m w
          have dv : (v == x 5) = false := by simpa using hv
          clear hv qb hv0 hv1 hv2
          go_wp2
          have ho3 := ho3'.alloc (.cells #[.int .i64 (m2 0), .int .i64 (m2 1), .int .i64 (m2 2), .int .i64 (m2 3), .int .i64 (m2 4), .int .i64 (m2 5), .int .i64 (m2 6), .int .u64 (m2 7), .int .u64 (m2 8), .int .u64 (m2 9), .int .u64 (m2 10), .int .u64 (m2 11)] 29)
          have hkc := (hk3.alloc (.cells #[.int .i64 (m2 0), .int .i64 (m2 1), .int .i64 (m2 2), .int .i64 (m2 3), .int .i64 (m2 4), .int .i64 (m2 5), .int .i64 (m2 6), .int .u64 (m2 7), .int .u64 (m2 8), .int .u64 (m2 9), .int .u64 (m2 10), .int .u64 (m2 11)] 29)).cell 6
          have hB3 := hB2.alloc (by omega) (.cells #[.int .i64 (m2 0), .int .i64 (m2 1), .int .i64 (m2 2), .int .i64 (m2 3), .int .i64 (m2 4), .int .i64 (m2 5), .int .i64 (m2 6), .int .u64 (m2 7), .int .u64 (m2 8), .int .u64 (m2 9), .int .u64 (m2 10), .int .u64 (m2 11)] 29)
          have hHl : H < (w2.alloc (.cells #[.int .i64 (m2 0), .int .i64 (m2 1), .int .i64 (m2 2), .int .i64 (m2 3), .int .i64 (m2 4), .int .i64 (m2 5), .int .i64 (m2 6), .int .u64 (m2 7), .int .u64 (m2 8), .int .u64 (m2 9), .int .u64 (m2 10), .int .u64 (m2 11)] 29)).heap.size := by simp; omega
          have hp3 := hp3'
          clear hp3' ho3' hkc' hB2 hk3
          generalize w2.heap.size = G2 at *
          generalize w1.heap.size = G at *
          generalize w2.alloc (.cells #[.int .i64 (m2 0), .int .i64 (m2 1), .int .i64 (m2 2), .int .i64 (m2 3), .int .i64 (m2 4), .int .i64 (m2 5), .int .i64 (m2 6), .int .u64 (m2 7), .int .u64 (m2 8), .int .u64 (m2 9), .int .u64 (m2 10), .int .u64 (m2 11)] 29) = W3 at *
          simp only [List.getElem?_toArray, List.getElem?_cons_succ, List.getElem?_cons_zero] at hkc
          go_region_held3 (fun w' => Below H w w' ∧ (w'.cell? ⟨G2, 0, none⟩ = some (.int .i64 (m2 0)) ∧ w'.cell? ⟨G2, 1, none⟩ = some (.int .i64 (m2 1)) ∧ w'.cell? ⟨G2, 2, none⟩ = some (.int .i64 (m2 2)) ∧ w'.cell? ⟨G2, 3, none⟩ = some (.int .i64 (m2 3)) ∧ w'.cell? ⟨G2, 4, none⟩ = some (.int .i64 (m2 4)) ∧ w'.cell? ⟨G2, 5, none⟩ = some (.int .i64 (m2 5)) ∧ w'.cell? ⟨G2, 6, none⟩ = some (.int .i64 (m2 6)) ∧ w'.cell? ⟨G2, 7, none⟩ = some (.int .u64 (m2 7)) ∧ w'.cell? ⟨G2, 8, none⟩ = some (.int .u64 (m2 8)) ∧ w'.cell? ⟨G2, 9, none⟩ = some (.int .u64 (m2 9)) ∧ w'.cell? ⟨G2, 10, none⟩ = some (.int .u64 (m2 10)) ∧ w'.cell? ⟨G2, 11, none⟩ = some (.int .u64 (m2 11))) ∧ (w'.cell? ⟨G, 0, none⟩ = some (.int .i64 (m 0)) ∧ w'.cell? ⟨G, 1, none⟩ = some (.int .i64 (m 1)) ∧ w'.cell? ⟨G, 2, none⟩ = some (.int .i64 (m 2)) ∧ w'.cell? ⟨G, 3, none⟩ = some (.int .i64 (m 3)) ∧ w'.cell? ⟨G, 4, none⟩ = some (.int .i64 (m 4)) ∧ w'.cell? ⟨G, 5, none⟩ = some (.int .i64 (m 5)) ∧ w'.cell? ⟨G, 6, none⟩ = some (.int .i64 (m 6)) ∧ w'.cell? ⟨G, 7, none⟩ = some (.int .u64 (m 7)) ∧ w'.cell? ⟨G, 8, none⟩ = some (.int .u64 (m 8)) ∧ w'.cell? ⟨G, 9, none⟩ = some (.int .u64 (m 9)) ∧ w'.cell? ⟨G, 10, none⟩ = some (.int .u64 (m 10)) ∧ w'.cell? ⟨G, 11, none⟩ = some (.int .u64 (m 11))) ∧ w'.cell? ⟨H, 6, none⟩ = some (.int .u64 (x 5))) (first | exact ⟨hB3.drew, hp3.drew.c12, ho3.drew.c12, hkc⟩ | exact ⟨hB4, hp4.c12, ho4.c12, hkc4⟩ | exact ⟨hB3, hp3.c12, ho3.c12, hkc⟩) ((go_at_call 10; refine (awake28 _).mono ?_; rintro e w3 ⟨rfl, hb3⟩; have hB4 := hB3.drew.trans (hb3.mono (show H ≤ W3.heap.size from Nat.le_of_lt hHl)); have hp4 := blk_call hp3.drew hb3; have ho4 := blk_call ho3.drew hb3; have hkc4 := (cell_below hb3 (b := H) (o := 6) hHl).trans hkc))
          all_goals
            go_wp2
            go_ret
            exact ⟨rfl, by rw [HH.out]; assumption⟩
        · obtain rfl := hv2.out hc2
          have q3 := eq3 0 0 0 0 0 0
          have q4 := eq4 0 0 0 0 0 0 0 0
          have dv : (v != x 5) = true := by simpa using hv
          clear hv hv0 hv1 hv2
          go_wp2_with fail
          refine (awake28 _).mono ?_
          rintro e w3 ⟨rfl, hb3⟩
          go_wp2_with fail
          go_ret
          exact ⟨rfl, by rw [HH.out]; exact (hB2.alloc (by omega) _).trans (hb3.mono (by simp; omega))⟩
  · go_wp2_with fail
    refine (awake28 _).mono ?_
    rintro e w2 ⟨rfl, hb2⟩
    go_wp2_with fail
    go_ret
    exact ⟨rfl, (hB1.alloc hB1.size _).trans (hb2.mono (by simp; have := hB1.size; omega))⟩
end Go.Proofs.Ytofmcaagnhdecaa
