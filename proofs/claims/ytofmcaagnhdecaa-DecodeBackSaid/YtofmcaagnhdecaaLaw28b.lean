/- The walk of DecodeBack. -/
import Derived.Test.YtofmcaagnhdecaaAwake28
import Derived.Test.YtofmcaagnhdecaaDecM
namespace Go.Proofs.Ytofmcaagnhdecaa
open Go.RowKit
set_option maxHeartbeats 4000000 in
set_option maxRecDepth 100000 in
theorem law_DecodeBack (op : Int) (x : Nat → Int) (om : Nat → Int) (_ : 0 ≤ op ∧ op < 18446744073709551616) (hx : U64 x) (hom : OrdB om) (w : World) :
    Calls Try.prog 6 #[.agg (callA op x), .agg (ordA om)] w fun e w' => e = .returned (.bool true) ∧ Below w.heap.size w w' := by
  have HX := hide hx
  have HO := hide hom
  clear hx hom
  rw [show callA op x = #[.int .u64 op, .int .u64 (x 0), .int .u64 (x 1), .int .u64 (x 2), .int .u64 (x 3), .int .u64 (x 4), .int .u64 (x 5)] from rfl, show ordA om = #[.int .i64 (om 0), .int .i64 (om 1), .int .i64 (om 2), .int .i64 (om 3), .int .i64 (om 4), .int .i64 (om 5), .int .i64 (om 6), .int .u64 (om 7), .int .u64 (om 8), .int .u64 (om 9), .int .u64 (om 10), .int .u64 (om 11)] from rfl]
  go_enter Try.func6, Try.ntmps6
  go_wp2_with fail
  have hkc := (Blk.new w 25 #[.int .u64 op, .int .u64 (x 0), .int .u64 (x 1), .int .u64 (x 2), .int .u64 (x 3), .int .u64 (x 4), .int .u64 (x 5)]).alloc (.cells #[.int .i64 (om 0), .int .i64 (om 1), .int .i64 (om 2), .int .i64 (om 3), .int .i64 (om 4), .int .i64 (om 5), .int .i64 (om 6), .int .u64 (om 7), .int .u64 (om 8), .int .u64 (om 9), .int .u64 (om 10), .int .u64 (om 11)] 29)
  have hko := Blk.new (w.alloc (.cells #[.int .u64 op, .int .u64 (x 0), .int .u64 (x 1), .int .u64 (x 2), .int .u64 (x 3), .int .u64 (x 4), .int .u64 (x 5)] 25)) 29 #[.int .i64 (om 0), .int .i64 (om 1), .int .i64 (om 2), .int .i64 (om 3), .int .i64 (om 4), .int .i64 (om 5), .int .i64 (om 6), .int .u64 (om 7), .int .u64 (om 8), .int .u64 (om 9), .int .u64 (om 10), .int .u64 (om 11)]
  have hB0 : Below w.heap.size w ((w.alloc (.cells #[.int .u64 op, .int .u64 (x 0), .int .u64 (x 1), .int .u64 (x 2), .int .u64 (x 3), .int .u64 (x 4), .int .u64 (x 5)] 25)).alloc (.cells #[.int .i64 (om 0), .int .i64 (om 1), .int .i64 (om 2), .int .i64 (om 3), .int .i64 (om 4), .int .i64 (om 5), .int .i64 (om 6), .int .u64 (om 7), .int .u64 (om 8), .int .u64 (om 9), .int .u64 (om 10), .int .u64 (om 11)] 29)) := ((Below.refl _ w).alloc (Nat.le_refl _) _).alloc (by simp) _
  have hz0 : w.heap.size + 2 ≤ ((w.alloc (.cells #[.int .u64 op, .int .u64 (x 0), .int .u64 (x 1), .int .u64 (x 2), .int .u64 (x 3), .int .u64 (x 4), .int .u64 (x 5)] 25)).alloc (.cells #[.int .i64 (om 0), .int .i64 (om 1), .int .i64 (om 2), .int .i64 (om 3), .int .i64 (om 4), .int .i64 (om 5), .int .i64 (om 6), .int .u64 (om 7), .int .u64 (om 8), .int .u64 (om 9), .int .u64 (om 10), .int .u64 (om 11)] 29)).heap.size := by simp
  simp only [World.size_alloc] at hko
  generalize (w.alloc (.cells #[.int .u64 op, .int .u64 (x 0), .int .u64 (x 1), .int .u64 (x 2), .int .u64 (x 3), .int .u64 (x 4), .int .u64 (x 5)] 25)).alloc (.cells #[.int .i64 (om 0), .int .i64 (om 1), .int .i64 (om 2), .int .i64 (om 3), .int .i64 (om 4), .int .i64 (om 5), .int .i64 (om 6), .int .u64 (om 7), .int .u64 (om 8), .int .u64 (om 9), .int .u64 (om 10), .int .u64 (om 11)] 29) = W0 at *
  generalize hH : w.heap.size = H at *
  have HH := hide hH
  clear hH
  refine (decode_any op x _ HX.out).mono ?_
  rintro e w1 ⟨rfl, hb1⟩
  replace hkc := blk_call hkc hb1
  replace hko := blk_call hko hb1
  replace hB0 := hB0.trans (hb1.mono (by omega))
  have hz1 : H + 2 ≤ w1.heap.size := by have := hb1.size; omega
  clear hb1 hz0
  obtain ⟨m, hm⟩ : ∃ m, (decV op x).1 = m := ⟨_, rfl⟩
  obtain ⟨c, hc⟩ : ∃ c, (decV op x).2 = c := ⟨_, rfl⟩
  rw [hm, hc, show ordA m = #[.int .i64 (m 0), .int .i64 (m 1), .int .i64 (m 2), .int .i64 (m 3), .int .i64 (m 4), .int .i64 (m 5), .int .i64 (m 6), .int .u64 (m 7), .int .u64 (m 8), .int .u64 (m 9), .int .u64 (m 10), .int .u64 (m 11)] from rfl]
  have HM := hide hm
  have HC := hide hc
  clear hm hc
  have l0 : H < w1.heap.size := by omega
  have l1 : H + 1 < w1.heap.size := by omega
  by_cases hc0 : c = 0
  case' pos =>
    subst hc0
    obtain ⟨hX, hE⟩ := enc_dec HX.out HC.out
    rw [HM.out] at hX hE
    have hcx : callA op (encX m) = #[.int .u64 op, .int .u64 (x 0), .int .u64 (x 1), .int .u64 (x 2), .int .u64 (x 3), .int .u64 (x 4), .int .u64 (x 5)] := callA_congr hX
    have HE := hide hE
    have HCX := hide hcx
    have HMB : Hid (OrdB m) := hide (by rw [← HM.out]; exact decV_bd HX.out)
    clear hX hE hcx
    obtain ⟨n0, n1, n2, n3, n4, n5, n6⟩ := hkc.c7
    go_wp2_with fail
    refine (encode_any m _ HMB.out).mono ?_
    rintro e w2 ⟨rfl, hb2⟩
    rw [HE.out, show callA ((op, encX m), (0 : Int)).1.1 ((op, encX m), (0 : Int)).1.2 = #[.int .u64 op, .int .u64 (x 0), .int .u64 (x 1), .int .u64 (x 2), .int .u64 (x 3), .int .u64 (x 4), .int .u64 (x 5)] from HCX.out]
    have hz2 := hb2.size
    simp only [World.size_alloc] at hz2
    have hko2 := (blk_call (hko.alloc _) hb2).alloc (.cells #[.int .u64 op, .int .u64 (x 0), .int .u64 (x 1), .int .u64 (x 2), .int .u64 (x 3), .int .u64 (x 4), .int .u64 (x 5)] 25)
    have hkc2 := (blk_call (hkc.alloc _) hb2).alloc (.cells #[.int .u64 op, .int .u64 (x 0), .int .u64 (x 1), .int .u64 (x 2), .int .u64 (x 3), .int .u64 (x 4), .int .u64 (x 5)] 25)
    have hB2 := ((hB0.alloc (by omega) _).trans (hb2.mono (by simp; omega))).alloc (by omega) (.cells #[.int .u64 op, .int .u64 (x 0), .int .u64 (x 1), .int .u64 (x 2), .int .u64 (x 3), .int .u64 (x 4), .int .u64 (x 5)] 25)
    have hkd := Blk.new w2 25 #[.int .u64 op, .int .u64 (x 0), .int .u64 (x 1), .int .u64 (x 2), .int .u64 (x 3), .int .u64 (x 4), .int .u64 (x 5)]
    have q : ∀ w, (Op.equalIn 10000 25 (.agg #[.int .u64 op, .int .u64 (x 0), .int .u64 (x 1), .int .u64 (x 2), .int .u64 (x 3), .int .u64 (x 4), .int .u64 (x 5)]) (.agg #[.int .u64 op, .int .u64 (x 0), .int .u64 (x 1), .int .u64 (x 2), .int .u64 (x 3), .int .u64 (x 4), .int .u64 (x 5)])).run Try.prog w = .ok true w := fun w => by
      have := call_eqA op x op x w
      rw [(callB_true op x op x).2 ⟨rfl, fun _ _ => rfl⟩] at this
      exact this
    have hz3 : H + 2 ≤ (w2.alloc (.cells #[.int .u64 op, .int .u64 (x 0), .int .u64 (x 1), .int .u64 (x 2), .int .u64 (x 3), .int .u64 (x 4), .int .u64 (x 5)] 25)).heap.size := by simp; omega
    clear n0 n1 n2 n3 n4 n5 n6 hkc hko hb2
    go_upto_region 4 with fail
    generalize w2.alloc (.cells #[.int .u64 op, .int .u64 (x 0), .int .u64 (x 1), .int .u64 (x 2), .int .u64 (x 3), .int .u64 (x 4), .int .u64 (x 5)] 25) = W5 at *
    generalize w2.heap.size = G2 at *
    obtain ⟨n0, n1, n2, n3, n4, n5, n6⟩ := hkc2.c7
    obtain ⟨d0, d1, d2, d3, d4, d5, d6⟩ := hkd.c7
    go_upto_if 31 with fail
    clear n0 n1 n2 n3 n4 n5 n6 d0 d1 d2 d3 d4 d5 d6 hkc2 hkd q
    obtain ⟨o0, o1, o2, o3, o4, o5, o6, o7, o8, o9, o10, o11⟩ := hko2.c12
    go_wp2_with fail
    have hkoW := hko2
    have hBW := hB2
    have hzW := hz3
    clear o0 o1 o2 o3 o4 o5 o6 o7 o8 o9 o10 o11 hko2 hB2 hz3 hz2 hB0 hz1 l0 l1 HE HCX HMB HC HM HX
  case' neg =>
    have hm0 := decV_bad (op := op) (x := x) (by rw [HC.out]; exact hc0)
    rw [HM.out] at hm0
    subst hm0
    have hko2 := hko.alloc (.cells #[.int .i64 0, .int .i64 0, .int .i64 0, .int .i64 0, .int .i64 0, .int .i64 0, .int .i64 0, .int .u64 0, .int .u64 0, .int .u64 0, .int .u64 0, .int .u64 0] 29)
    have hB2 := hB0.alloc (by omega) (.cells #[.int .i64 0, .int .i64 0, .int .i64 0, .int .i64 0, .int .i64 0, .int .i64 0, .int .i64 0, .int .u64 0, .int .u64 0, .int .u64 0, .int .u64 0, .int .u64 0] 29)
    have hkd := Blk.new w1 29 #[.int .i64 0, .int .i64 0, .int .i64 0, .int .i64 0, .int .i64 0, .int .i64 0, .int .i64 0, .int .u64 0, .int .u64 0, .int .u64 0, .int .u64 0, .int .u64 0]
    have hz3 : H + 2 ≤ (w1.alloc (.cells #[.int .i64 0, .int .i64 0, .int .i64 0, .int .i64 0, .int .i64 0, .int .i64 0, .int .i64 0, .int .u64 0, .int .u64 0, .int .u64 0, .int .u64 0, .int .u64 0] 29)).heap.size := by simp; omega
    have q3 := eq3 0 0 0 0 0 0
    have q4 := eq4 0 0 0 0 0 0 0 0
    clear hko hB0 hkc HM
    go_upto_region 6 with fail
    generalize w1.alloc (.cells #[.int .i64 0, .int .i64 0, .int .i64 0, .int .i64 0, .int .i64 0, .int .i64 0, .int .i64 0, .int .u64 0, .int .u64 0, .int .u64 0, .int .u64 0, .int .u64 0] 29) = W5 at *
    generalize w1.heap.size = G2 at *
    obtain ⟨d0, d1, d2, d3, d4, d5, d6, d7, d8, d9, d10, d11⟩ := hkd.c12
    go_upto_if 34 with fail
    clear q3 q4 d0 d1 d2 d3 d4 d5 d6 d7 d8 d9 d10 d11 hkd
    obtain ⟨o0, o1, o2, o3, o4, o5, o6, o7, o8, o9, o10, o11⟩ := hko2.c12
    go_wp2_with fail
    have hkoW := hko2
    have hBW := hB2
    have hzW := hz3
    clear o0 o1 o2 o3 o4 o5 o6 o7 o8 o9 o10 o11 hko2 hB2 hz3 hz1 l0 l1 HC HX
  all_goals
    refine (encode_any om _ HO.out).mono ?_
    rintro e w6 ⟨rfl, hb6⟩
    replace hkoW := blk_call hkoW hb6
    replace hBW := hBW.trans (hb6.mono (by omega))
    have hz6 : H + 2 ≤ w6.heap.size := by have := hb6.size; omega
    clear hb6 hzW
    by_cases he : (encV om).2 = 0
    · obtain ⟨_, hE, hd0, hdB⟩ := dec_enc28 he
      rw [he, hE, show callA (om 0, encX om).1 (om 0, encX om).2 = #[.int .u64 (om 0), .int .u64 (encX om 0), .int .u64 (encX om 1), .int .u64 (encX om 2), .int .u64 (encX om 3), .int .u64 (encX om 4), .int .u64 (encX om 5)] from rfl]
      have HD0 := hide hd0
      have HDB := hide hdB
      clear he hE hd0 hdB
      go_wp2_with fail
      refine (decode_any (om 0) (encX om) _ (encX_u om HO.out)).mono ?_
      rintro e w7 ⟨rfl, hb7⟩
      have hz7 : H + 2 ≤ w7.heap.size := by have := hb7.size; simp only [World.size_alloc] at this; omega
      have hko7 := blk_call (hkoW.alloc _) hb7
      have hB7 := (hBW.alloc (by omega) _).trans (hb7.mono (by simp; omega))
      clear hb7 hkoW hBW hz6
      obtain ⟨m3, hm3⟩ : ∃ m3, (decV (om 0) (encX om)).1 = m3 := ⟨_, rfl⟩
      have hbb : ordB m3 om = true := by rw [← hm3]; exact HDB.out
      rw [hm3, HD0.out, show ordA m3 = #[.int .i64 (m3 0), .int .i64 (m3 1), .int .i64 (m3 2), .int .i64 (m3 3), .int .i64 (m3 4), .int .i64 (m3 5), .int .i64 (m3 6), .int .u64 (m3 7), .int .u64 (m3 8), .int .u64 (m3 9), .int .u64 (m3 10), .int .u64 (m3 11)] from rfl]
      have q : ∀ w, (Op.equalIn 10000 29 (.agg #[.int .i64 (m3 0), .int .i64 (m3 1), .int .i64 (m3 2), .int .i64 (m3 3), .int .i64 (m3 4), .int .i64 (m3 5), .int .i64 (m3 6), .int .u64 (m3 7), .int .u64 (m3 8), .int .u64 (m3 9), .int .u64 (m3 10), .int .u64 (m3 11)]) (.agg #[.int .i64 (om 0), .int .i64 (om 1), .int .i64 (om 2), .int .i64 (om 3), .int .i64 (om 4), .int .i64 (om 5), .int .i64 (om 6), .int .u64 (om 7), .int .u64 (om 8), .int .u64 (om 9), .int .u64 (om 10), .int .u64 (om 11)])).run Try.prog w = .ok true w := fun w => by rw [← hbb]; exact ord_eqA m3 om w
      have hk8 := hko7.alloc (.cells #[.int .i64 (m3 0), .int .i64 (m3 1), .int .i64 (m3 2), .int .i64 (m3 3), .int .i64 (m3 4), .int .i64 (m3 5), .int .i64 (m3 6), .int .u64 (m3 7), .int .u64 (m3 8), .int .u64 (m3 9), .int .u64 (m3 10), .int .u64 (m3 11)] 29)
      have hB8 := hB7.alloc (by omega) (.cells #[.int .i64 (m3 0), .int .i64 (m3 1), .int .i64 (m3 2), .int .i64 (m3 3), .int .i64 (m3 4), .int .i64 (m3 5), .int .i64 (m3 6), .int .u64 (m3 7), .int .u64 (m3 8), .int .u64 (m3 9), .int .u64 (m3 10), .int .u64 (m3 11)] 29)
      have hkn := Blk.new w7 29 #[.int .i64 (m3 0), .int .i64 (m3 1), .int .i64 (m3 2), .int .i64 (m3 3), .int .i64 (m3 4), .int .i64 (m3 5), .int .i64 (m3 6), .int .u64 (m3 7), .int .u64 (m3 8), .int .u64 (m3 9), .int .u64 (m3 10), .int .u64 (m3 11)]
      have hz8 : H + 2 ≤ (w7.alloc (.cells #[.int .i64 (m3 0), .int .i64 (m3 1), .int .i64 (m3 2), .int .i64 (m3 3), .int .i64 (m3 4), .int .i64 (m3 5), .int .i64 (m3 6), .int .u64 (m3 7), .int .u64 (m3 8), .int .u64 (m3 9), .int .u64 (m3 10), .int .u64 (m3 11)] 29)).heap.size := by simp; omega
      clear hm3 hbb hko7 hB7 HDB HD0
      go_upto_region 11 with fail
      generalize w7.alloc (.cells #[.int .i64 (m3 0), .int .i64 (m3 1), .int .i64 (m3 2), .int .i64 (m3 3), .int .i64 (m3 4), .int .i64 (m3 5), .int .i64 (m3 6), .int .u64 (m3 7), .int .u64 (m3 8), .int .u64 (m3 9), .int .u64 (m3 10), .int .u64 (m3 11)] 29) = W8 at *
      generalize w7.heap.size = G3 at *
      obtain ⟨o0, o1, o2, o3, o4, o5, o6, o7, o8, o9, o10, o11⟩ := hk8.c12
      obtain ⟨d0, d1, d2, d3, d4, d5, d6, d7, d8, d9, d10, d11⟩ := hkn.c12
      go_wp2_with fail
      refine (awake28 _).mono ?_
      rintro e w9 ⟨rfl, hb9⟩
      go_wp2_with fail
      go_ret
      exact ⟨rfl, by rw [HH.out]; exact hB8.trans (hb9.mono (by omega))⟩
    · rw [enc_bad he, show callA ((0 : Int), fun _ : Nat => (0 : Int)).1 ((0 : Int), fun _ : Nat => (0 : Int)).2 = #[.int .u64 0, .int .u64 0, .int .u64 0, .int .u64 0, .int .u64 0, .int .u64 0, .int .u64 0] from rfl]
      have q6 := eq6 0 0 0 0 0 0 0 0 0 0 0 0
      have hB8 := hBW.alloc (by omega) (.cells #[.int .u64 0, .int .u64 0, .int .u64 0, .int .u64 0, .int .u64 0, .int .u64 0, .int .u64 0] 25)
      have hkn := Blk.new w6 25 #[.int .u64 0, .int .u64 0, .int .u64 0, .int .u64 0, .int .u64 0, .int .u64 0, .int .u64 0]
      have hz8 : H + 2 ≤ (w6.alloc (.cells #[.int .u64 0, .int .u64 0, .int .u64 0, .int .u64 0, .int .u64 0, .int .u64 0, .int .u64 0] 25)).heap.size := by simp; omega
      generalize (encV om).2 = c6 at *
      clear hBW hkoW
      go_upto_region 12 with fail
      generalize w6.alloc (.cells #[.int .u64 0, .int .u64 0, .int .u64 0, .int .u64 0, .int .u64 0, .int .u64 0, .int .u64 0] 25) = W8 at *
      generalize w6.heap.size = G3 at *
      obtain ⟨n0, n1, n2, n3, n4, n5, n6⟩ := hkn.c7
      go_wp2_with fail
      refine (awake28 _).mono ?_
      rintro e w9 ⟨rfl, hb9⟩
      go_wp2_with fail
      go_ret
      exact ⟨rfl, by rw [HH.out]; exact hB8.trans (hb9.mono (by omega))⟩
end Go.Proofs.Ytofmcaagnhdecaa
