/- The walks of DecodeReads and DecodeLays. -/
import Derived.Test.YtofmcaagnhdecaaAwake28
import Derived.Test.YtofmcaagnhdecaaDecRE
namespace Go.Proofs.Ytofmcaagnhdecaa
open Go.RowKit
set_option maxHeartbeats 4000000 in
set_option maxRecDepth 100000 in
theorem law_DecodeReads (op : Int) (x : Nat → Int) (_ : 0 ≤ op ∧ op < 18446744073709551616) (hx : U64 x) (w : World) :
    Calls Try.prog 3 #[.agg (callA op x)] w fun e w' => e = .returned (.bool true) ∧ Below w.heap.size w w' := by
  have HX := hide hx
  clear hx
  rw [show callA op x = #[.int .u64 op, .int .u64 (x 0), .int .u64 (x 1), .int .u64 (x 2), .int .u64 (x 3), .int .u64 (x 4), .int .u64 (x 5)] from rfl]
  go_enter Try.func3, Try.ntmps3
  go_upto_region 1 with fail
  have hkc := Blk.new w 25 #[.int .u64 op, .int .u64 (x 0), .int .u64 (x 1), .int .u64 (x 2), .int .u64 (x 3), .int .u64 (x 4), .int .u64 (x 5)]
  have hB0 : Below w.heap.size w (w.alloc (.cells #[.int .u64 op, .int .u64 (x 0), .int .u64 (x 1), .int .u64 (x 2), .int .u64 (x 3), .int .u64 (x 4), .int .u64 (x 5)] 25)) := (Below.refl _ w).alloc (Nat.le_refl _) _
  have hz0 : w.heap.size + 1 ≤ (w.alloc (.cells #[.int .u64 op, .int .u64 (x 0), .int .u64 (x 1), .int .u64 (x 2), .int .u64 (x 3), .int .u64 (x 4), .int .u64 (x 5)] 25)).heap.size := by simp
  generalize w.alloc (.cells #[.int .u64 op, .int .u64 (x 0), .int .u64 (x 1), .int .u64 (x 2), .int .u64 (x 3), .int .u64 (x 4), .int .u64 (x 5)] 25) = W0 at *
  generalize hH : w.heap.size = H at *
  have HH := hide hH
  clear hH
  obtain ⟨n0, n1, n2, n3, n4, n5, n6⟩ := hkc.c7
  go_wp2_with fail
  refine (decode_any op x _ HX.out).mono ?_
  rintro e w1 ⟨rfl, hb1⟩
  replace hkc := blk_call hkc hb1
  replace hB0 := hB0.trans (hb1.mono (by omega))
  have hz1 : H + 1 ≤ w1.heap.size := by have := hb1.size; omega
  clear hb1 hz0 n0 n1 n2 n3 n4 n5 n6
  obtain ⟨m, c, HV⟩ : ∃ m c, Hid (Value.tuple #[.agg (ordA (decV op x).1), .int .i64 (decV op x).2] = .tuple #[.agg #[.int .i64 (m 0), .int .i64 (m 1), .int .i64 (m 2), .int .i64 (m 3), .int .i64 (m 4), .int .i64 (m 5), .int .i64 (m 6), .int .u64 (m 7), .int .u64 (m 8), .int .u64 (m 9), .int .u64 (m 10), .int .u64 (m 11)], .int .i64 c]) := ⟨(decV op x).1, (decV op x).2, hide rfl⟩
  rw [HV.out]
  have hk1 := hkc.alloc (.cells #[.int .i64 (m 0), .int .i64 (m 1), .int .i64 (m 2), .int .i64 (m 3), .int .i64 (m 4), .int .i64 (m 5), .int .i64 (m 6), .int .u64 (m 7), .int .u64 (m 8), .int .u64 (m 9), .int .u64 (m 10), .int .u64 (m 11)] 29)
  have hd1 := Blk.new w1 29 #[.int .i64 (m 0), .int .i64 (m 1), .int .i64 (m 2), .int .i64 (m 3), .int .i64 (m 4), .int .i64 (m 5), .int .i64 (m 6), .int .u64 (m 7), .int .u64 (m 8), .int .u64 (m 9), .int .u64 (m 10), .int .u64 (m 11)]
  have hB1 := hB0.alloc (by omega) (.cells #[.int .i64 (m 0), .int .i64 (m 1), .int .i64 (m 2), .int .i64 (m 3), .int .i64 (m 4), .int .i64 (m 5), .int .i64 (m 6), .int .u64 (m 7), .int .u64 (m 8), .int .u64 (m 9), .int .u64 (m 10), .int .u64 (m 11)] 29)
  have hz2 : H + 1 ≤ (w1.alloc (.cells #[.int .i64 (m 0), .int .i64 (m 1), .int .i64 (m 2), .int .i64 (m 3), .int .i64 (m 4), .int .i64 (m 5), .int .i64 (m 6), .int .u64 (m 7), .int .u64 (m 8), .int .u64 (m 9), .int .u64 (m 10), .int .u64 (m 11)] 29)).heap.size := by simp; omega
  clear hkc hB0
  go_upto_region 2 with fail
  generalize w1.alloc (.cells #[.int .i64 (m 0), .int .i64 (m 1), .int .i64 (m 2), .int .i64 (m 3), .int .i64 (m 4), .int .i64 (m 5), .int .i64 (m 6), .int .u64 (m 7), .int .u64 (m 8), .int .u64 (m 9), .int .u64 (m 10), .int .u64 (m 11)] 29) = W1 at *
  generalize w1.heap.size = G1 at *
  obtain ⟨n0, n1, n2, n3, n4, n5, n6⟩ := hk1.c7
  go_wp2_with fail
  refine (rdecode_any op x _ HX.out).mono ?_
  rintro e w2 ⟨rfl, hb2⟩
  rw [HV.out]
  replace hd1 := blk_call hd1 hb2
  replace hB1 := hB1.trans (hb2.mono (by omega))
  have hz3 : H + 1 ≤ w2.heap.size := by have := hb2.size; omega
  clear hb2 hz2 hk1 n0 n1 n2 n3 n4 n5 n6
  have hd2 := hd1.alloc (.cells #[.int .i64 (m 0), .int .i64 (m 1), .int .i64 (m 2), .int .i64 (m 3), .int .i64 (m 4), .int .i64 (m 5), .int .i64 (m 6), .int .u64 (m 7), .int .u64 (m 8), .int .u64 (m 9), .int .u64 (m 10), .int .u64 (m 11)] 29)
  have hd3 := Blk.new w2 29 #[.int .i64 (m 0), .int .i64 (m 1), .int .i64 (m 2), .int .i64 (m 3), .int .i64 (m 4), .int .i64 (m 5), .int .i64 (m 6), .int .u64 (m 7), .int .u64 (m 8), .int .u64 (m 9), .int .u64 (m 10), .int .u64 (m 11)]
  have hB2 := hB1.alloc (by omega) (.cells #[.int .i64 (m 0), .int .i64 (m 1), .int .i64 (m 2), .int .i64 (m 3), .int .i64 (m 4), .int .i64 (m 5), .int .i64 (m 6), .int .u64 (m 7), .int .u64 (m 8), .int .u64 (m 9), .int .u64 (m 10), .int .u64 (m 11)] 29)
  have hz4 : H + 1 ≤ (w2.alloc (.cells #[.int .i64 (m 0), .int .i64 (m 1), .int .i64 (m 2), .int .i64 (m 3), .int .i64 (m 4), .int .i64 (m 5), .int .i64 (m 6), .int .u64 (m 7), .int .u64 (m 8), .int .u64 (m 9), .int .u64 (m 10), .int .u64 (m 11)] 29)).heap.size := by simp; omega
  clear hd1 hB1
  go_upto_region 3 with fail
  generalize w2.alloc (.cells #[.int .i64 (m 0), .int .i64 (m 1), .int .i64 (m 2), .int .i64 (m 3), .int .i64 (m 4), .int .i64 (m 5), .int .i64 (m 6), .int .u64 (m 7), .int .u64 (m 8), .int .u64 (m 9), .int .u64 (m 10), .int .u64 (m 11)] 29) = W2 at *
  generalize w2.heap.size = G2 at *
  obtain ⟨p0, p1, p2, p3, p4, p5, p6, p7, p8, p9, p10, p11⟩ := hd2.c12
  obtain ⟨r0, r1, r2, r3, r4, r5, r6, r7, r8, r9, r10, r11⟩ := hd3.c12
  have q : ∀ w, (Op.equalIn 10000 29 (.agg #[.int .i64 (m 0), .int .i64 (m 1), .int .i64 (m 2), .int .i64 (m 3), .int .i64 (m 4), .int .i64 (m 5), .int .i64 (m 6), .int .u64 (m 7), .int .u64 (m 8), .int .u64 (m 9), .int .u64 (m 10), .int .u64 (m 11)]) (.agg #[.int .i64 (m 0), .int .i64 (m 1), .int .i64 (m 2), .int .i64 (m 3), .int .i64 (m 4), .int .i64 (m 5), .int .i64 (m 6), .int .u64 (m 7), .int .u64 (m 8), .int .u64 (m 9), .int .u64 (m 10), .int .u64 (m 11)])).run Try.prog w = .ok true w := fun w => by
    have := ord_eqA m m w
    rw [ordB_self m] at this
    exact this
  go_wp2_with fail
  refine (num_any _ _).mono ?_
  rintro e w3 ⟨rfl, rfl⟩
  go_wp2_with fail
  refine (awake28 _).mono ?_
  rintro e w4 ⟨rfl, hb4⟩
  go_wp2_with fail
  go_ret
  exact ⟨rfl, by rw [HH.out]; exact hB2.trans (hb4.mono (by omega))⟩
set_option maxHeartbeats 4000000 in
set_option maxRecDepth 100000 in
theorem law_DecodeLays (m : Nat → Int) (hx : OrdB m) (w : World) :
    Calls Try.prog 5 #[.agg (ordA m)] w fun e w' => e = .returned (.bool true) ∧ Below w.heap.size w w' := by
  have HX := hide hx
  clear hx
  rw [show ordA m = #[.int .i64 (m 0), .int .i64 (m 1), .int .i64 (m 2), .int .i64 (m 3), .int .i64 (m 4), .int .i64 (m 5), .int .i64 (m 6), .int .u64 (m 7), .int .u64 (m 8), .int .u64 (m 9), .int .u64 (m 10), .int .u64 (m 11)] from rfl]
  go_enter Try.func5, Try.ntmps5
  go_upto_region 1 with fail
  have hkc := Blk.new w 29 #[.int .i64 (m 0), .int .i64 (m 1), .int .i64 (m 2), .int .i64 (m 3), .int .i64 (m 4), .int .i64 (m 5), .int .i64 (m 6), .int .u64 (m 7), .int .u64 (m 8), .int .u64 (m 9), .int .u64 (m 10), .int .u64 (m 11)]
  have hB0 : Below w.heap.size w (w.alloc (.cells #[.int .i64 (m 0), .int .i64 (m 1), .int .i64 (m 2), .int .i64 (m 3), .int .i64 (m 4), .int .i64 (m 5), .int .i64 (m 6), .int .u64 (m 7), .int .u64 (m 8), .int .u64 (m 9), .int .u64 (m 10), .int .u64 (m 11)] 29)) := (Below.refl _ w).alloc (Nat.le_refl _) _
  have hz0 : w.heap.size + 1 ≤ (w.alloc (.cells #[.int .i64 (m 0), .int .i64 (m 1), .int .i64 (m 2), .int .i64 (m 3), .int .i64 (m 4), .int .i64 (m 5), .int .i64 (m 6), .int .u64 (m 7), .int .u64 (m 8), .int .u64 (m 9), .int .u64 (m 10), .int .u64 (m 11)] 29)).heap.size := by simp
  generalize w.alloc (.cells #[.int .i64 (m 0), .int .i64 (m 1), .int .i64 (m 2), .int .i64 (m 3), .int .i64 (m 4), .int .i64 (m 5), .int .i64 (m 6), .int .u64 (m 7), .int .u64 (m 8), .int .u64 (m 9), .int .u64 (m 10), .int .u64 (m 11)] 29) = W0 at *
  generalize hH : w.heap.size = H at *
  have HH := hide hH
  clear hH
  obtain ⟨n0, n1, n2, n3, n4, n5, n6, n7, n8, n9, n10, n11⟩ := hkc.c12
  go_wp2_with fail
  refine (encode_any m _ HX.out).mono ?_
  rintro e w1 ⟨rfl, hb1⟩
  replace hkc := blk_call hkc hb1
  replace hB0 := hB0.trans (hb1.mono (by omega))
  have hz1 : H + 1 ≤ w1.heap.size := by have := hb1.size; omega
  clear hb1 hz0 n0 n1 n2 n3 n4 n5 n6 n7 n8 n9 n10 n11
  obtain ⟨op, x, c, HV⟩ : ∃ op x c, Hid (Value.tuple #[.agg (callA (encV m).1.1 (encV m).1.2), .int .i64 (encV m).2] = .tuple #[.agg #[.int .u64 op, .int .u64 (x 0), .int .u64 (x 1), .int .u64 (x 2), .int .u64 (x 3), .int .u64 (x 4), .int .u64 (x 5)], .int .i64 c]) := ⟨(encV m).1.1, (encV m).1.2, (encV m).2, hide rfl⟩
  rw [HV.out]
  have hk1 := hkc.alloc (.cells #[.int .u64 op, .int .u64 (x 0), .int .u64 (x 1), .int .u64 (x 2), .int .u64 (x 3), .int .u64 (x 4), .int .u64 (x 5)] 25)
  have hd1 := Blk.new w1 25 #[.int .u64 op, .int .u64 (x 0), .int .u64 (x 1), .int .u64 (x 2), .int .u64 (x 3), .int .u64 (x 4), .int .u64 (x 5)]
  have hB1 := hB0.alloc (by omega) (.cells #[.int .u64 op, .int .u64 (x 0), .int .u64 (x 1), .int .u64 (x 2), .int .u64 (x 3), .int .u64 (x 4), .int .u64 (x 5)] 25)
  have hz2 : H + 1 ≤ (w1.alloc (.cells #[.int .u64 op, .int .u64 (x 0), .int .u64 (x 1), .int .u64 (x 2), .int .u64 (x 3), .int .u64 (x 4), .int .u64 (x 5)] 25)).heap.size := by simp; omega
  clear hkc hB0
  go_upto_region 2 with fail
  generalize w1.alloc (.cells #[.int .u64 op, .int .u64 (x 0), .int .u64 (x 1), .int .u64 (x 2), .int .u64 (x 3), .int .u64 (x 4), .int .u64 (x 5)] 25) = W1 at *
  generalize w1.heap.size = G1 at *
  obtain ⟨n0, n1, n2, n3, n4, n5, n6, n7, n8, n9, n10, n11⟩ := hk1.c12
  go_wp2_with fail
  refine (rencode_any m _ HX.out).mono ?_
  rintro e w2 ⟨rfl, hb2⟩
  rw [HV.out]
  replace hd1 := blk_call hd1 hb2
  replace hB1 := hB1.trans (hb2.mono (by omega))
  have hz3 : H + 1 ≤ w2.heap.size := by have := hb2.size; omega
  clear hb2 hz2 hk1 n0 n1 n2 n3 n4 n5 n6 n7 n8 n9 n10 n11
  have hd2 := hd1.alloc (.cells #[.int .u64 op, .int .u64 (x 0), .int .u64 (x 1), .int .u64 (x 2), .int .u64 (x 3), .int .u64 (x 4), .int .u64 (x 5)] 25)
  have hd3 := Blk.new w2 25 #[.int .u64 op, .int .u64 (x 0), .int .u64 (x 1), .int .u64 (x 2), .int .u64 (x 3), .int .u64 (x 4), .int .u64 (x 5)]
  have hB2 := hB1.alloc (by omega) (.cells #[.int .u64 op, .int .u64 (x 0), .int .u64 (x 1), .int .u64 (x 2), .int .u64 (x 3), .int .u64 (x 4), .int .u64 (x 5)] 25)
  have hz4 : H + 1 ≤ (w2.alloc (.cells #[.int .u64 op, .int .u64 (x 0), .int .u64 (x 1), .int .u64 (x 2), .int .u64 (x 3), .int .u64 (x 4), .int .u64 (x 5)] 25)).heap.size := by simp; omega
  clear hd1 hB1
  go_upto_region 3 with fail
  generalize w2.alloc (.cells #[.int .u64 op, .int .u64 (x 0), .int .u64 (x 1), .int .u64 (x 2), .int .u64 (x 3), .int .u64 (x 4), .int .u64 (x 5)] 25) = W2 at *
  generalize w2.heap.size = G2 at *
  obtain ⟨p0, p1, p2, p3, p4, p5, p6⟩ := hd2.c7
  obtain ⟨r0, r1, r2, r3, r4, r5, r6⟩ := hd3.c7
  have q : ∀ w, (Op.equalIn 10000 25 (.agg #[.int .u64 op, .int .u64 (x 0), .int .u64 (x 1), .int .u64 (x 2), .int .u64 (x 3), .int .u64 (x 4), .int .u64 (x 5)]) (.agg #[.int .u64 op, .int .u64 (x 0), .int .u64 (x 1), .int .u64 (x 2), .int .u64 (x 3), .int .u64 (x 4), .int .u64 (x 5)])).run Try.prog w = .ok true w := fun w => by
    have := call_eqA op x op x w
    rw [(callB_true op x op x).2 ⟨rfl, fun _ _ => rfl⟩] at this
    exact this
  go_wp2_with fail
  refine (num_any _ _).mono ?_
  rintro e w3 ⟨rfl, rfl⟩
  go_wp2_with fail
  refine (awake28 _).mono ?_
  rintro e w4 ⟨rfl, hb4⟩
  go_wp2_with fail
  go_ret
  exact ⟨rfl, by rw [HH.out]; exact hB2.trans (hb4.mono (by omega))⟩
end Go.Proofs.Ytofmcaagnhdecaa
