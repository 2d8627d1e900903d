/- The walk of the reference's Encode. -/
import Derived.Test.YtofmcaagnhdecaaDecRQ
import Derived.WalkMore
namespace Go.Proofs.Ytofmcaagnhdecaa
open Go.RowKit Go.Shelf
theorem renc_w3 {w : World} {t0 t1 t2 : TypeId} (ca za cc : Array Value) : Blk (((w.alloc (.cells ca t0)).alloc (.cells za t1)).alloc (.cells cc t2)) w.heap.size t0 ca ∧ Blk (((w.alloc (.cells ca t0)).alloc (.cells za t1)).alloc (.cells cc t2)) (w.heap.size + 1) t1 za ∧ Blk (((w.alloc (.cells ca t0)).alloc (.cells za t1)).alloc (.cells cc t2)) (w.heap.size + 1 + 1) t2 cc ∧ Below w.heap.size w (((w.alloc (.cells ca t0)).alloc (.cells za t1)).alloc (.cells cc t2)) ∧ w.heap.size + 3 ≤ (((w.alloc (.cells ca t0)).alloc (.cells za t1)).alloc (.cells cc t2)).heap.size := by
  have b0 := ((Blk.new w t0 ca).alloc (.cells za t1)).alloc (.cells cc t2)
  have b1 := (Blk.new (w.alloc (.cells ca t0)) t1 za).alloc (.cells cc t2)
  have b2 := Blk.new ((w.alloc (.cells ca t0)).alloc (.cells za t1)) t2 cc
  simp only [World.size_alloc] at b1 b2
  exact ⟨b0, b1, b2, (((Below.refl _ w).alloc (Nat.le_refl _) _).alloc (by simp) _).alloc (by simp; omega) _, by simp⟩
theorem u64_in {n : Int} (h0 : 0 ≤ n) (h1 : n ≤ 9223372036854775807) : IntKind.u64.wrap n = n := by
  unfold IntKind.wrap
  simp [IntKind.signed, IntKind.bits]
  omega
theorem i64_in' {n : Int} (h0 : 0 ≤ n) (h1 : n ≤ 9223372036854775807) : IntKind.i64.wrap n = n := by
  unfold IntKind.wrap
  simp [IntKind.signed, IntKind.bits]
  omega
theorem renc_one {w W : World} {H : Nat} {m : Nat → Int} (c0 : Blk W H 29 (ordA m)) (c1 : Blk W (H + 1) 25 (callA 0 fun _ => 0)) (c2 : Blk W (H + 1 + 1) 25 #[.int .u64 (m 0), .int .u64 0, .int .u64 0, .int .u64 0, .int .u64 0, .int .u64 0, .int .u64 0]) (hB : Below H w W) (hz : H + 3 ≤ W.heap.size) (h1 : m 0 = 1) (h6 : 0 ≤ m 6 ∧ m 6 ≤ 9223372036854775807) :
    REnc w H m 6 ((((((W.setCell ⟨H + 1 + 1, 1, none⟩ (.int .u64 (IntKind.u64.wrap (m 1)))).setCell ⟨H + 1 + 1, 2, none⟩ (.int .u64 (IntKind.u64.wrap (m 4)))).setCell ⟨H + 1 + 1, 3, none⟩ (.int .u64 (IntKind.u64.wrap (m 5)))).setCell ⟨H + 1 + 1, 4, none⟩ (.int .u64 (IntKind.u64.wrap (m 2)))).setCell ⟨H + 1 + 1, 5, none⟩ (.int .u64 (m 6 % 16))).setCell ⟨H + 1 + 1, 6, none⟩ (.int .u64 (m 6 / 16))) ∧
    Blk ((((((W.setCell ⟨H + 1 + 1, 1, none⟩ (.int .u64 (IntKind.u64.wrap (m 1)))).setCell ⟨H + 1 + 1, 2, none⟩ (.int .u64 (IntKind.u64.wrap (m 4)))).setCell ⟨H + 1 + 1, 3, none⟩ (.int .u64 (IntKind.u64.wrap (m 5)))).setCell ⟨H + 1 + 1, 4, none⟩ (.int .u64 (IntKind.u64.wrap (m 2)))).setCell ⟨H + 1 + 1, 5, none⟩ (.int .u64 (m 6 % 16))).setCell ⟨H + 1 + 1, 6, none⟩ (.int .u64 (m 6 / 16))) (H + 1 + 1) 25 #[.int .u64 (m 0), .int .u64 (encX m 0), .int .u64 (encX m 1), .int .u64 (encX m 2), .int .u64 (encX m 3), .int .u64 (encX m 4), .int .u64 (encX m 5)] := by
  have hc := (((((c2.set_ 1 (.int .u64 (IntKind.u64.wrap (m 1)))).set_ 2 (.int .u64 (IntKind.u64.wrap (m 4)))).set_ 3 (.int .u64 (IntKind.u64.wrap (m 5)))).set_ 4 (.int .u64 (IntKind.u64.wrap (m 2)))).set_ 5 (.int .u64 (m 6 % 16))).set_ 6 (.int .u64 (m 6 / 16))
  simp only [List.setIfInBounds_toArray, List.set_cons_zero, List.set_cons_succ] at hc
  have e := encX_1 h1
  rw [u64_in (n := m 6 % 16) (by omega) (by omega), u64_in (n := m 6 / 16) (by omega) (by omega)] at e
  rw [← e] at hc
  have eK : callA (m 0) (encK m 6) = callA (m 0) (encX m) := encK_all m 6 (formG_ok (m 0)).1
  refine ⟨⟨?_, ?_, by rw [eK]; exact hc, ?_, by simpa [World.setCell] using hz⟩, hc⟩
  · exact (((((c0.far (by show _ ≠ H + 1 + 1; omega) _).far (by show _ ≠ H + 1 + 1; omega) _).far (by show _ ≠ H + 1 + 1; omega) _).far (by show _ ≠ H + 1 + 1; omega) _).far (by show _ ≠ H + 1 + 1; omega) _).far (by show _ ≠ H + 1 + 1; omega) _
  · exact (((((c1.far (by show _ ≠ H + 1 + 1; omega) _).far (by show _ ≠ H + 1 + 1; omega) _).far (by show _ ≠ H + 1 + 1; omega) _).far (by show _ ≠ H + 1 + 1; omega) _).far (by show _ ≠ H + 1 + 1; omega) _).far (by show _ ≠ H + 1 + 1; omega) _
  · exact (((((hB.setCell (by show _ ≤ H + 1 + 1; omega) _).setCell (by show _ ≤ H + 1 + 1; omega) _).setCell (by show _ ≤ H + 1 + 1; omega) _).setCell (by show _ ≤ H + 1 + 1; omega) _).setCell (by show _ ≤ H + 1 + 1; omega) _).setCell (by show _ ≤ H + 1 + 1; omega) _
set_option maxRecDepth 100000 in
set_option maxHeartbeats 4000000 in
theorem rencode_neg (m : Nat → Int) (w : World) (_hm : OrdB m) (h0 : m 0 < 0) : Calls Try.prog 13 #[.agg (ordA m)] w (EncPost (encV m) w) := by
  have HV : Hid (encV m = ((0, fun _ => 0), 5)) := hide (by unfold encV; rw [if_pos (.inl h0)])
  unfold ordA
  go_enter Try.func13, Try.ntmps13
  go_upto_region 1 with fail
  obtain ⟨c0, c1, hB, hz⟩ := rdec_w (w := w) (t0 := 29) (t1 := 25) #[.int .i64 (m 0), .int .i64 (m 1), .int .i64 (m 2), .int .i64 (m 3), .int .i64 (m 4), .int .i64 (m 5), .int .i64 (m 6), .int .u64 (m 7), .int .u64 (m 8), .int .u64 (m 9), .int .u64 (m 10), .int .u64 (m 11)] #[.int .u64 0, .int .u64 0, .int .u64 0, .int .u64 0, .int .u64 0, .int .u64 0, .int .u64 0]
  generalize (w.alloc (.cells #[.int .i64 (m 0), .int .i64 (m 1), .int .i64 (m 2), .int .i64 (m 3), .int .i64 (m 4), .int .i64 (m 5), .int .i64 (m 6), .int .u64 (m 7), .int .u64 (m 8), .int .u64 (m 9), .int .u64 (m 10), .int .u64 (m 11)] 29)).alloc (.cells #[.int .u64 0, .int .u64 0, .int .u64 0, .int .u64 0, .int .u64 0, .int .u64 0, .int .u64 0] 25) = W at *
  generalize hH : w.heap.size = H at *
  have HH := hide hH
  clear hH
  have o0 : W.cell? ⟨H, 0, none⟩ = some (.int .i64 (m 0)) := c0.cell 0
  have l0 := c0.lt
  obtain ⟨e0, e1, e2, e3, e4, e5, e6⟩ := (show Blk W (H + 1) 25 #[.int .u64 0, .int .u64 0, .int .u64 0, .int .u64 0, .int .u64 0, .int .u64 0, .int .u64 0] from c1).c7
  obtain ⟨f0, f1, f2, f3, f4, f5, f6⟩ := (show Blk W (H + 1) 25 #[.int .u64 0, .int .u64 0, .int .u64 0, .int .u64 0, .int .u64 0, .int .u64 0, .int .u64 0] from c1).f7
  have hlt1 := c1.lt
  go_wp2
  refine bodyPost_ret (results_cell_tmp rfl _ _ (H + 1) 25 _ (0, 0) _ rfl ((show Blk W (H + 1) 25 #[.int .u64 0, .int .u64 0, .int .u64 0, .int .u64 0, .int .u64 0, .int .u64 0, .int .u64 0] from c1).set7 _ _ _ _ _ _ _) Try.underlying25 rfl (by kernel_rfl)) rfl ⟨by rw [HV.out]; rfl, ?_⟩
  rw [HH.out]
  exact below_set7 hB (by omega) _ _ _ _ _ _ _
set_option maxRecDepth 100000 in
set_option maxHeartbeats 4000000 in
theorem rencode_none (m : Nat → Int) (w : World) (hm : OrdB m) (h0 : ¬ m 0 < 0) (hf : formL (m 0) = none) : Calls Try.prog 13 #[.agg (ordA m)] w (EncPost (encV m) w) := by
  have HV : Hid (encV m = ((0, fun _ => 0), 5)) := hide (by
    have h1 : (decV (m 0) (encX m)).2 = 2 := by unfold decV; rw [hf]
    unfold encV
    rw [h1, if_neg (fun h : (2 : Int) = 0 ∧ _ => absurd h.1 (by decide))]
    exact ite_self _)
  have b0 := ((hm 0).1 (by decide)).2
  have hs := formSB_none hf
  have hform := rform_any (m 0)
  rw [hs] at hform
  have h0' : 0 ≤ m 0 := by omega
  have hwr : IntKind.u64.wrap (m 0) = m 0 := u64_in h0' b0
  clear hm hf hs
  unfold ordA
  go_enter Try.func13, Try.ntmps13
  go_upto_region 1 with fail
  obtain ⟨c0, c1, hB, hz⟩ := rdec_w (w := w) (t0 := 29) (t1 := 25) #[.int .i64 (m 0), .int .i64 (m 1), .int .i64 (m 2), .int .i64 (m 3), .int .i64 (m 4), .int .i64 (m 5), .int .i64 (m 6), .int .u64 (m 7), .int .u64 (m 8), .int .u64 (m 9), .int .u64 (m 10), .int .u64 (m 11)] #[.int .u64 0, .int .u64 0, .int .u64 0, .int .u64 0, .int .u64 0, .int .u64 0, .int .u64 0]
  generalize (w.alloc (.cells #[.int .i64 (m 0), .int .i64 (m 1), .int .i64 (m 2), .int .i64 (m 3), .int .i64 (m 4), .int .i64 (m 5), .int .i64 (m 6), .int .u64 (m 7), .int .u64 (m 8), .int .u64 (m 9), .int .u64 (m 10), .int .u64 (m 11)] 29)).alloc (.cells #[.int .u64 0, .int .u64 0, .int .u64 0, .int .u64 0, .int .u64 0, .int .u64 0, .int .u64 0] 25) = W at *
  generalize hH : w.heap.size = H at *
  have HH := hide hH
  clear hH
  have o0 : W.cell? ⟨H, 0, none⟩ = some (.int .i64 (m 0)) := c0.cell 0
  have l0 := c0.lt
  go_wp2_with fail
  refine (hform _).mono ?_
  rintro e w2 ⟨rfl, rfl⟩
  have q : ((⟨#[63]⟩ : ByteArray).toList == [63]) = true := by decide +kernel
  obtain ⟨e0, e1, e2, e3, e4, e5, e6⟩ := (show Blk W (H + 1) 25 #[.int .u64 0, .int .u64 0, .int .u64 0, .int .u64 0, .int .u64 0, .int .u64 0, .int .u64 0] from c1).c7
  obtain ⟨f0, f1, f2, f3, f4, f5, f6⟩ := (show Blk W (H + 1) 25 #[.int .u64 0, .int .u64 0, .int .u64 0, .int .u64 0, .int .u64 0, .int .u64 0, .int .u64 0] from c1).f7
  have hlt1 := c1.lt
  go_wp2
  refine bodyPost_ret (results_cell_tmp rfl _ _ (H + 1) 25 _ (0, 0) _ rfl ((show Blk W (H + 1) 25 #[.int .u64 0, .int .u64 0, .int .u64 0, .int .u64 0, .int .u64 0, .int .u64 0, .int .u64 0] from c1).set7 _ _ _ _ _ _ _) Try.underlying25 rfl (by kernel_rfl)) rfl ⟨by rw [HV.out]; rfl, ?_⟩
  rw [HH.out]
  exact below_set7 hB (by omega) _ _ _ _ _ _ _
set_option maxRecDepth 100000 in
set_option maxHeartbeats 4000000 in
theorem rencode_one (m : Nat → Int) (w : World) (hm : OrdB m) (h1 : m 0 = 1) : Calls Try.prog 13 #[.agg (ordA m)] w (EncPost (encV m) w) := by
  have H0 : Hid (¬ m 0 < 0) := hide (by omega)
  have hm6 := (hm 6).1 (by decide)
  have HM := hide hm
  have HE := hide h1
  have hs : formSB (m 0) = ⟨#[97, 107, 122, 97, 105, 99]⟩ := by rw [h1]; rfl
  have hform := rform_any (m 0)
  rw [hs] at hform
  have hwr : IntKind.u64.wrap (m 0) = m 0 := by rw [h1]; rfl
  have h0' : 0 ≤ m 0 := by omega
  have d1 : ((m 0 : Int) == 1) = true := by simpa using h1
  have q0 : ((⟨#[97, 107, 122, 97, 105, 99]⟩ : ByteArray).toList == [63]) = false := by decide +kernel
  clear hm hs h1
  unfold ordA
  go_enter Try.func13, Try.ntmps13
  go_wp2_with fail
  refine (hform _).mono ?_
  rintro e w2 ⟨rfl, rfl⟩
  clear hform
  go_upto_region 7 with fail
  obtain ⟨c0, c1, c2, hB, hz⟩ := renc_w3 (w := w) (t0 := 29) (t1 := 25) (t2 := 25) #[.int .i64 (m 0), .int .i64 (m 1), .int .i64 (m 2), .int .i64 (m 3), .int .i64 (m 4), .int .i64 (m 5), .int .i64 (m 6), .int .u64 (m 7), .int .u64 (m 8), .int .u64 (m 9), .int .u64 (m 10), .int .u64 (m 11)] #[.int .u64 0, .int .u64 0, .int .u64 0, .int .u64 0, .int .u64 0, .int .u64 0, .int .u64 0] #[.int .u64 (m 0), .int .u64 0, .int .u64 0, .int .u64 0, .int .u64 0, .int .u64 0, .int .u64 0]
  generalize ((w.alloc (.cells #[.int .i64 (m 0), .int .i64 (m 1), .int .i64 (m 2), .int .i64 (m 3), .int .i64 (m 4), .int .i64 (m 5), .int .i64 (m 6), .int .u64 (m 7), .int .u64 (m 8), .int .u64 (m 9), .int .u64 (m 10), .int .u64 (m 11)] 29)).alloc (.cells #[.int .u64 0, .int .u64 0, .int .u64 0, .int .u64 0, .int .u64 0, .int .u64 0, .int .u64 0] 25)).alloc (.cells #[.int .u64 (m 0), .int .u64 0, .int .u64 0, .int .u64 0, .int .u64 0, .int .u64 0, .int .u64 0] 25) = W at *
  generalize hH : w.heap.size = H at *
  have HH := hide hH
  clear hH
  obtain ⟨o0, o1, o2, o3, o4, o5, o6, o7, o8, o9, o10, o11⟩ := c0.c12
  have l0 := c0.lt
  have l2 := c2.lt
  by_cases h6 : m 6 < 0
  · have HV : Hid (encV m = ((0, fun _ => 0), 5)) := hide (by unfold encV; rw [if_pos (.inr h6)])
    obtain ⟨e0, e1, e2, e3, e4, e5, e6⟩ := (show Blk W (H + 1) 25 #[.int .u64 0, .int .u64 0, .int .u64 0, .int .u64 0, .int .u64 0, .int .u64 0, .int .u64 0] from c1).c7
    obtain ⟨f0, f1, f2, f3, f4, f5, f6⟩ := (show Blk W (H + 1) 25 #[.int .u64 0, .int .u64 0, .int .u64 0, .int .u64 0, .int .u64 0, .int .u64 0, .int .u64 0] from c1).f7
    have hlt1 := c1.lt
    go_wp2
    refine bodyPost_ret (results_cell_tmp rfl _ _ (H + 1) 25 _ (0, 0) _ rfl ((show Blk W (H + 1) 25 #[.int .u64 0, .int .u64 0, .int .u64 0, .int .u64 0, .int .u64 0, .int .u64 0, .int .u64 0] from c1).set7 _ _ _ _ _ _ _) Try.underlying25 rfl (by kernel_rfl)) rfl ⟨by rw [HV.out]; rfl, ?_⟩
    rw [HH.out]
    exact below_set7 hB (by omega) _ _ _ _ _ _ _
  · have H6 : Hid (¬ (m 0 = 1 ∧ m 6 < 0)) := hide (fun h => h6 h.2)
    have h6' : 0 ≤ m 6 := by omega
    obtain ⟨f0, f1, f2, f3, f4, f5, f6⟩ := c2.f7
    obtain ⟨g0, g1, g2, g3, g4, g5, g6⟩ := c2.c7
    have t1 : (m 6).tmod 16 = m 6 % 16 := Int.tmod_eq_emod_of_nonneg h6'
    have t2 : (m 6).tdiv 16 = m 6 / 16 := Int.tdiv_eq_ediv_of_nonneg h6'
    have t3 : IntKind.i64.wrap (m 6 / 16) = m 6 / 16 := i64_in' (by omega) (by omega)
    have e := encX_1 HE.out
    rw [u64_in (n := m 6 % 16) (by omega) (by omega), u64_in (n := m 6 / 16) (by omega) (by omega)] at e
    have hdec := fun w => rdecode_any (m 0) (encX m) w (encX_u m HM.out)
    rw [e] at hdec
    have hW := renc_one c0 c1 c2 hB hz HE.out ⟨h6', hm6.2⟩
    have HW := hide hW
    clear e hW
    go_wp2_with fail
    refine (hdec _).mono ?_
    clear hdec
    have hW := HW.out
    clear HW
    generalize (((((W.setCell ⟨H + 1 + 1, 1, none⟩ (.int .u64 (IntKind.u64.wrap (m 1)))).setCell ⟨H + 1 + 1, 2, none⟩ (.int .u64 (IntKind.u64.wrap (m 4)))).setCell ⟨H + 1 + 1, 3, none⟩ (.int .u64 (IntKind.u64.wrap (m 5)))).setCell ⟨H + 1 + 1, 4, none⟩ (.int .u64 (IntKind.u64.wrap (m 2)))).setCell ⟨H + 1 + 1, 5, none⟩ (.int .u64 (m 6 % 16))).setCell ⟨H + 1 + 1, 6, none⟩ (.int .u64 (m 6 / 16)) = W6 at *
    obtain ⟨hI, hcX⟩ := hW
    clear c0 c1 c2 hB hz o0 o1 o2 o3 o4 o5 o6 o7 o8 o9 o10 o11 l0 l2 f0 f1 f2 f3 f4 f5 f6 g0 g1 g2 g3 g4 g5 g6 t1 t2 t3 h6 h6' hm6 d1 q0
    have HIK := hide hI
    have HCX := hide hcX
    clear hI hcX
    rintro e w3 ⟨rfl, hb3⟩
    have HV := hide (encV_alt (by have := H0.out; omega) H6.out)
    obtain ⟨m2, hm2⟩ : ∃ m2, (decV (m 0) (encX m)).1 = m2 := ⟨_, rfl⟩
    obtain ⟨c2, hc2⟩ : ∃ c2, (decV (m 0) (encX m)).2 = c2 := ⟨_, rfl⟩
    have HV1 := HV.out
    rw [hm2, hc2] at HV1
    have HV := hide HV1
    clear HV1
    rw [hm2, hc2, show ordA m2 = #[.int .i64 (m2 0), .int .i64 (m2 1), .int .i64 (m2 2), .int .i64 (m2 3), .int .i64 (m2 4), .int .i64 (m2 5), .int .i64 (m2 6), .int .u64 (m2 7), .int .u64 (m2 8), .int .u64 (m2 9), .int .u64 (m2 10), .int .u64 (m2 11)] from rfl]
    have hI3 := HIK.out.bel hb3
    have hcX3 := blk_call HCX.out hb3
    clear hm2 hc2 hb3
    have hbox : Blk w3 H 29 #[.int .i64 (m 0), .int .i64 (m 1), .int .i64 (m 2), .int .i64 (m 3), .int .i64 (m 4), .int .i64 (m 5), .int .i64 (m 6), .int .u64 (m 7), .int .u64 (m 8), .int .u64 (m 9), .int .u64 (m 10), .int .u64 (m 11)] := hI3.box
    obtain ⟨o0, o1, o2, o3, o4, o5, o6, o7, o8, o9, o10, o11⟩ := hbox.c12
    have hs3 := hI3.size
    have l0 : H < w3.heap.size := by omega
    have l1 : H + 1 < w3.heap.size := by omega
    have l2 : H + 1 + 1 < w3.heap.size := by omega
    have HI3 := hide hI3
    have HCX3 := hide hcX3
    clear hI3 hcX3 hbox
    by_cases hcc : c2 = 0
    · cases hbb : ordB m2 m with
      | true =>
        have q : ∀ w, (Op.equalIn 10000 29 (.agg #[.int .i64 (m2 0), .int .i64 (m2 1), .int .i64 (m2 2), .int .i64 (m2 3), .int .i64 (m2 4), .int .i64 (m2 5), .int .i64 (m2 6), .int .u64 (m2 7), .int .u64 (m2 8), .int .u64 (m2 9), .int .u64 (m2 10), .int .u64 (m2 11)]) (.agg #[.int .i64 (m 0), .int .i64 (m 1), .int .i64 (m 2), .int .i64 (m 3), .int .i64 (m 4), .int .i64 (m 5), .int .i64 (m 6), .int .u64 (m 7), .int .u64 (m 8), .int .u64 (m 9), .int .u64 (m 10), .int .u64 (m 11)])).run Try.prog w = .ok true w := fun w => by rw [← hbb]; exact ord_eqA m2 m w
        have hV2 := HV.out
        rw [if_pos ⟨hcc, hbb⟩] at hV2
        have HV2 := hide hV2
        clear hV2 HV hbb
        subst hcc
        go_upto_if 146 with fail
        have hI4 := HI3.out.alloc (.cells #[.int .i64 (m2 0), .int .i64 (m2 1), .int .i64 (m2 2), .int .i64 (m2 3), .int .i64 (m2 4), .int .i64 (m2 5), .int .i64 (m2 6), .int .u64 (m2 7), .int .u64 (m2 8), .int .u64 (m2 9), .int .u64 (m2 10), .int .u64 (m2 11)] 29)
        have hcX4 := HCX3.out.alloc (.cells #[.int .i64 (m2 0), .int .i64 (m2 1), .int .i64 (m2 2), .int .i64 (m2 3), .int .i64 (m2 4), .int .i64 (m2 5), .int .i64 (m2 6), .int .u64 (m2 7), .int .u64 (m2 8), .int .u64 (m2 9), .int .u64 (m2 10), .int .u64 (m2 11)] 29)
        generalize w3.alloc (.cells #[.int .i64 (m2 0), .int .i64 (m2 1), .int .i64 (m2 2), .int .i64 (m2 3), .int .i64 (m2 4), .int .i64 (m2 5), .int .i64 (m2 6), .int .u64 (m2 7), .int .u64 (m2 8), .int .u64 (m2 9), .int .u64 (m2 10), .int .u64 (m2 11)] 29) = W4 at *
        clear l0 l1 l2 o0 o1 o2 o3 o4 o5 o6 o7 o8 o9 o10 o11 q
        obtain ⟨n0, n1, n2, n3, n4, n5, n6⟩ := hcX4.c7
        have hlt2 := hcX4.lt
        have HR4 := hide hI4.res
        have HB4 := hide hI4.below
        clear hI4
        obtain ⟨e0, e1, e2, e3, e4, e5, e6⟩ := (show Blk W4 (H + 1) 25 #[.int .u64 0, .int .u64 0, .int .u64 0, .int .u64 0, .int .u64 0, .int .u64 0, .int .u64 0] from HR4.out).c7
        obtain ⟨f0, f1, f2, f3, f4, f5, f6⟩ := (show Blk W4 (H + 1) 25 #[.int .u64 0, .int .u64 0, .int .u64 0, .int .u64 0, .int .u64 0, .int .u64 0, .int .u64 0] from HR4.out).f7
        have hlt1 := HR4.out.lt
        go_wp2
        refine bodyPost_ret (results_cell_tmp rfl _ _ (H + 1) 25 _ (0, 0) _ rfl ((show Blk W4 (H + 1) 25 #[.int .u64 0, .int .u64 0, .int .u64 0, .int .u64 0, .int .u64 0, .int .u64 0, .int .u64 0] from HR4.out).set7 _ _ _ _ _ _ _) Try.underlying25 rfl (by kernel_rfl)) rfl ⟨by rw [HV2.out]; rfl, ?_⟩
        rw [HH.out]
        exact below_set7 HB4.out (by omega) _ _ _ _ _ _ _
      | false =>
        have q : ∀ w, (Op.equalIn 10000 29 (.agg #[.int .i64 (m2 0), .int .i64 (m2 1), .int .i64 (m2 2), .int .i64 (m2 3), .int .i64 (m2 4), .int .i64 (m2 5), .int .i64 (m2 6), .int .u64 (m2 7), .int .u64 (m2 8), .int .u64 (m2 9), .int .u64 (m2 10), .int .u64 (m2 11)]) (.agg #[.int .i64 (m 0), .int .i64 (m 1), .int .i64 (m 2), .int .i64 (m 3), .int .i64 (m 4), .int .i64 (m 5), .int .i64 (m 6), .int .u64 (m 7), .int .u64 (m 8), .int .u64 (m 9), .int .u64 (m 10), .int .u64 (m 11)])).run Try.prog w = .ok false w := fun w => by rw [← hbb]; exact ord_eqA m2 m w
        have hV2 := HV.out
        rw [if_neg (by rw [hbb]; simp)] at hV2
        have HV2 := hide hV2
        clear hV2 HV hbb
        subst hcc
        go_upto_if 146 with fail
        have hI4 := HI3.out.alloc (.cells #[.int .i64 (m2 0), .int .i64 (m2 1), .int .i64 (m2 2), .int .i64 (m2 3), .int .i64 (m2 4), .int .i64 (m2 5), .int .i64 (m2 6), .int .u64 (m2 7), .int .u64 (m2 8), .int .u64 (m2 9), .int .u64 (m2 10), .int .u64 (m2 11)] 29)
        have hcX4 := HCX3.out.alloc (.cells #[.int .i64 (m2 0), .int .i64 (m2 1), .int .i64 (m2 2), .int .i64 (m2 3), .int .i64 (m2 4), .int .i64 (m2 5), .int .i64 (m2 6), .int .u64 (m2 7), .int .u64 (m2 8), .int .u64 (m2 9), .int .u64 (m2 10), .int .u64 (m2 11)] 29)
        generalize w3.alloc (.cells #[.int .i64 (m2 0), .int .i64 (m2 1), .int .i64 (m2 2), .int .i64 (m2 3), .int .i64 (m2 4), .int .i64 (m2 5), .int .i64 (m2 6), .int .u64 (m2 7), .int .u64 (m2 8), .int .u64 (m2 9), .int .u64 (m2 10), .int .u64 (m2 11)] 29) = W4 at *
        clear l0 l1 l2 o0 o1 o2 o3 o4 o5 o6 o7 o8 o9 o10 o11 q
        clear hcX4
        have HR4 := hide hI4.res
        have HB4 := hide hI4.below
        clear hI4
        obtain ⟨e0, e1, e2, e3, e4, e5, e6⟩ := (show Blk W4 (H + 1) 25 #[.int .u64 0, .int .u64 0, .int .u64 0, .int .u64 0, .int .u64 0, .int .u64 0, .int .u64 0] from HR4.out).c7
        obtain ⟨f0, f1, f2, f3, f4, f5, f6⟩ := (show Blk W4 (H + 1) 25 #[.int .u64 0, .int .u64 0, .int .u64 0, .int .u64 0, .int .u64 0, .int .u64 0, .int .u64 0] from HR4.out).f7
        have hlt1 := HR4.out.lt
        go_wp2
        refine bodyPost_ret (results_cell_tmp rfl _ _ (H + 1) 25 _ (0, 0) _ rfl ((show Blk W4 (H + 1) 25 #[.int .u64 0, .int .u64 0, .int .u64 0, .int .u64 0, .int .u64 0, .int .u64 0, .int .u64 0] from HR4.out).set7 _ _ _ _ _ _ _) Try.underlying25 rfl (by kernel_rfl)) rfl ⟨by rw [HV2.out]; rfl, ?_⟩
        rw [HH.out]
        exact below_set7 HB4.out (by omega) _ _ _ _ _ _ _
    · have hV2 := HV.out
      rw [if_neg (fun h => hcc h.1)] at hV2
      have HV2 := hide hV2
      clear hV2 HV
      go_upto_if 146 with fail
      have hI4 := HI3.out.alloc (.cells #[.int .i64 (m2 0), .int .i64 (m2 1), .int .i64 (m2 2), .int .i64 (m2 3), .int .i64 (m2 4), .int .i64 (m2 5), .int .i64 (m2 6), .int .u64 (m2 7), .int .u64 (m2 8), .int .u64 (m2 9), .int .u64 (m2 10), .int .u64 (m2 11)] 29)
      have hcX4 := HCX3.out.alloc (.cells #[.int .i64 (m2 0), .int .i64 (m2 1), .int .i64 (m2 2), .int .i64 (m2 3), .int .i64 (m2 4), .int .i64 (m2 5), .int .i64 (m2 6), .int .u64 (m2 7), .int .u64 (m2 8), .int .u64 (m2 9), .int .u64 (m2 10), .int .u64 (m2 11)] 29)
      generalize w3.alloc (.cells #[.int .i64 (m2 0), .int .i64 (m2 1), .int .i64 (m2 2), .int .i64 (m2 3), .int .i64 (m2 4), .int .i64 (m2 5), .int .i64 (m2 6), .int .u64 (m2 7), .int .u64 (m2 8), .int .u64 (m2 9), .int .u64 (m2 10), .int .u64 (m2 11)] 29) = W4 at *
      clear l0 l1 l2 o0 o1 o2 o3 o4 o5 o6 o7 o8 o9 o10 o11
      clear hcX4
      have HR4 := hide hI4.res
      have HB4 := hide hI4.below
      clear hI4
      obtain ⟨e0, e1, e2, e3, e4, e5, e6⟩ := (show Blk W4 (H + 1) 25 #[.int .u64 0, .int .u64 0, .int .u64 0, .int .u64 0, .int .u64 0, .int .u64 0, .int .u64 0] from HR4.out).c7
      obtain ⟨f0, f1, f2, f3, f4, f5, f6⟩ := (show Blk W4 (H + 1) 25 #[.int .u64 0, .int .u64 0, .int .u64 0, .int .u64 0, .int .u64 0, .int .u64 0, .int .u64 0] from HR4.out).f7
      have hlt1 := HR4.out.lt
      go_wp2
      refine bodyPost_ret (results_cell_tmp rfl _ _ (H + 1) 25 _ (0, 0) _ rfl ((show Blk W4 (H + 1) 25 #[.int .u64 0, .int .u64 0, .int .u64 0, .int .u64 0, .int .u64 0, .int .u64 0, .int .u64 0] from HR4.out).set7 _ _ _ _ _ _ _) Try.underlying25 rfl (by kernel_rfl)) rfl ⟨by rw [HV2.out]; rfl, ?_⟩
      rw [HH.out]
      exact below_set7 HB4.out (by omega) _ _ _ _ _ _ _
set_option maxRecDepth 100000 in
set_option maxHeartbeats 4000000 in
theorem rencode_some (m : Nat → Int) (w : World) (hm : OrdB m) (h0 : ¬ m 0 < 0) (h1 : ¬ m 0 = 1) (fs : List (Int × Int × Nat)) (hf : formL (m 0) = some fs) : Calls Try.prog 13 #[.agg (ordA m)] w (EncPost (encV m) w) := by
  have H0 := hide h0
  have H6 : Hid (¬ (m 0 = 1 ∧ m 6 < 0)) := hide (fun h => h1 h.1)
  have b0 := ((hm 0).1 (by decide)).2
  have h0' : 0 ≤ m 0 := by omega
  have hwr : IntKind.u64.wrap (m 0) = m 0 := u64_in h0' b0
  have HM := hide hm
  have HE := hide h1
  have HF := hide hf
  have hR := roles_of hf h1
  have hform := rform_any (m 0)
  generalize formSB (m 0) = s at hR hform
  obtain ⟨hlen, hok, _, _⟩ := formL_ok hf
  have q0 := hR.some_
  have hsz := hR.size
  have HR := hide hR
  have d1 : ((m 0 : Int) == 1) = false := by simpa using h1
  clear hm hf hR h1 hok h0
  unfold ordA
  go_enter Try.func13, Try.ntmps13
  go_wp2_with fail
  refine (hform _).mono ?_
  rintro e w2 ⟨rfl, rfl⟩
  clear hform
  go_upto_region 7 with fail
  obtain ⟨c0, c1, c2, hB, hz⟩ := renc_w3 (w := w) (t0 := 29) (t1 := 25) (t2 := 25) #[.int .i64 (m 0), .int .i64 (m 1), .int .i64 (m 2), .int .i64 (m 3), .int .i64 (m 4), .int .i64 (m 5), .int .i64 (m 6), .int .u64 (m 7), .int .u64 (m 8), .int .u64 (m 9), .int .u64 (m 10), .int .u64 (m 11)] #[.int .u64 0, .int .u64 0, .int .u64 0, .int .u64 0, .int .u64 0, .int .u64 0, .int .u64 0] #[.int .u64 (m 0), .int .u64 0, .int .u64 0, .int .u64 0, .int .u64 0, .int .u64 0, .int .u64 0]
  generalize ((w.alloc (.cells #[.int .i64 (m 0), .int .i64 (m 1), .int .i64 (m 2), .int .i64 (m 3), .int .i64 (m 4), .int .i64 (m 5), .int .i64 (m 6), .int .u64 (m 7), .int .u64 (m 8), .int .u64 (m 9), .int .u64 (m 10), .int .u64 (m 11)] 29)).alloc (.cells #[.int .u64 0, .int .u64 0, .int .u64 0, .int .u64 0, .int .u64 0, .int .u64 0, .int .u64 0] 25)).alloc (.cells #[.int .u64 (m 0), .int .u64 0, .int .u64 0, .int .u64 0, .int .u64 0, .int .u64 0, .int .u64 0] 25) = W at *
  generalize hH : w.heap.size = H at *
  have HH := hide hH
  clear hH
  have hI : REnc w H m 0 W := ⟨c0, c1, c2, hB, hz⟩
  have o0 : W.cell? ⟨H, 0, none⟩ = some (.int .i64 (m 0)) := c0.cell 0
  have l0 := c0.lt
  clear c0 c1 c2 hB hz
  go_wp2_with fail
  go_loopw [6, 7, 8] (fun a b i wr => ∃ k : Nat, k ≤ fs.length ∧ a = .bool (firstB fs k) ∧ b = .int .i64 (msgN fs k) ∧ i = .int .i64 k ∧ REnc w H m k wr) (fun _ _ i _ => 6 - (intOf i).toNat)
  case atStart => exact ⟨0, Nat.zero_le _, rfl, rfl, rfl, hI⟩
  case round =>
    obtain ⟨k, hk, rfl, rfl, rfl, hIk⟩ := hrel
    clear hI o0 l0
    by_cases hkn : k < fs.length
    · obtain ⟨⟨lo, hi, t⟩, hft⟩ : ∃ f, fs[k]? = some f := ⟨_, List.getElem?_eq_getElem hkn⟩
      obtain ⟨L, hidx, hrole⟩ := HR.out.at_ k _ hft
      dsimp only at hrole
      have hXt := fun h => encX_n HF.out HE.out hft h
      dsimp only at hXt
      have hk6 : k < 6 := by omega
      have hkJ : (k : Int) < (fs.length : Int) := by omega
      have hck : wr.cell? ⟨H + 1 + 1, 1 + k, none⟩ = some (.int .u64 (encK m k k)) := by rw [Nat.add_comm 1 k]; exact (hIk.c.cell (k + 1)).trans (callA_cell (m 0) (encK m k) k hk6)
      have hcz := hIk.c.frozen (1 + k)
      have hcl := hIk.c.lt
      have hbox : Blk wr H 29 #[.int .i64 (m 0), .int .i64 (m 1), .int .i64 (m 2), .int .i64 (m 3), .int .i64 (m 4), .int .i64 (m 5), .int .i64 (m 6), .int .u64 (m 7), .int .u64 (m 8), .int .u64 (m 9), .int .u64 (m 10), .int .u64 (m 11)] := hIk.box
      have l0 := hbox.lt
      obtain ⟨o0, o1, o2, o3, o4, o5, o6, o7, o8, o9, o10, o11⟩ := hbox.c12
      have hst := hIk.step hk6
      have HBX := hide hbox
      unfold roleB at hrole
      clear hft hbox hIk o0 o3 o5 o6 o8 o9 o10 o11 hk
      by_cases t1 : t = 1
      · subst t1
        rw [if_pos rfl] at hrole
        simp only [Bool.and_eq_true, decide_eq_true_eq, Bool.not_eq_true'] at hrole
        obtain ⟨⟨⟨rfl, r1⟩, r2⟩, r3⟩ := hrole
        rw [show encX m k = IntKind.u64.wrap (m 1) from hXt (by decide)] at hst
        have HST := hide hst
        have R2 := hide r2
        have R3 := hide r3
        clear hst hXt r2 r3 o2 o4 o7
        go_wp2
        go_roundw
        case rel => exact ⟨k + 1, hkn, by rw [R2.out], by rw [R3.out], by go_num, HST.out⟩
        case measure => simp [intOf]; omega
      rw [if_neg t1] at hrole
      by_cases t2 : t = 2
      · subst t2
        rw [if_pos rfl] at hrole
        simp only [Bool.and_eq_true, decide_eq_true_eq, Bool.not_eq_true'] at hrole
        obtain ⟨⟨⟨rfl, r1⟩, r2⟩, r3⟩ := hrole
        rw [show encX m k = IntKind.u64.wrap (m 2) from hXt (by decide)] at hst
        have HST := hide hst
        have R2 := hide r2
        have R3 := hide r3
        clear hst hXt r2 r3 o1 o4 o7
        go_wp2
        go_roundw
        case rel => exact ⟨k + 1, hkn, by rw [R2.out, r1], by rw [R3.out], by go_num, HST.out⟩
        case measure => simp [intOf]; omega
      rw [if_neg t2] at hrole
      by_cases t7 : t = 7
      · subst t7
        rw [if_pos rfl] at hrole
        simp only [Bool.and_eq_true, decide_eq_true_eq, Bool.not_eq_true'] at hrole
        obtain ⟨⟨⟨rfl, r1⟩, r2⟩, r3⟩ := hrole
        rw [show encX m k = m 7 from hXt (by decide)] at hst
        have HST := hide hst
        have R2 := hide r2
        have R3 := hide r3
        unfold wwB at r1
        clear hst hXt r2 r3 o1 o2 o4
        by_cases h4 : 4 ≤ s.size
        · rw [decide_eq_true h4, Bool.true_and] at r1
          have h4' : (4 : Int) ≤ (fs.length : Int) := by omega
          have hsl := fun w => run_slice_tail (P := Try.prog) 9 s ((fs.length : Int) - 4) (by kernel_rfl) (by omega) (by omega) w
          rw [show ((fs.length : Int) - 4).toNat = s.size - 4 by omega] at hsl
          generalize s.extract (s.size - 4) s.size = s4 at *
          go_wp2
          go_roundw
          case rel => exact ⟨k + 1, hkn, by rw [R2.out], by rw [R3.out], by go_num, HST.out⟩
          case measure => simp [intOf]; omega
        · clear r1
          have h4' : decide ((4 : Int) ≤ (fs.length : Int)) = false := decide_eq_false (by omega)
          have h4'' : (fs.length : Int) < 4 := by omega
          go_wp2
          go_roundw
          case rel => exact ⟨k + 1, hkn, by rw [R2.out], by rw [R3.out], by go_num, HST.out⟩
          case measure => simp [intOf]; omega
      rw [if_neg t7] at hrole
      by_cases t4 : t = 4
      · subst t4
        rw [if_pos rfl] at hrole
        simp only [Bool.and_eq_true, decide_eq_true_eq] at hrole
        obtain ⟨⟨⟨r0, r1⟩, r2⟩, r3⟩ := hrole
        have e0 : (L == 97) = false := by simpa using r0
        have e1 : (L == 119) = false := by simpa using r1
        rw [show encX m k = IntKind.u64.wrap (m 4) from hXt (by decide)] at hst
        have HST := hide hst
        have R2 := hide r2
        have R3 := hide r3
        clear hst hXt r2 r3 o1 o2 o7 r0 r1
        go_wp2
        go_roundw
        case rel => exact ⟨k + 1, hkn, by rw [R2.out], by rw [R3.out], by go_num, HST.out⟩
        case measure => simp [intOf]; omega
      · rw [if_neg t4] at hrole
        simp only [Bool.and_eq_true, decide_eq_true_eq] at hrole
        obtain ⟨⟨⟨⟨⟨⟨ta, tb⟩, rfl⟩, r1⟩, r2⟩, r4⟩, r3⟩ := hrole
        have hw : isW t = true := by simp [isW]; omega
        rw [show encX m k = m t by rw [hXt (by omega), if_pos hw]] at hst
        have HST := hide hst
        have R2 := hide r2
        have R3 := hide r3
        unfold wwB at r1
        rw [Bool.and_eq_true, decide_eq_true_eq] at r1
        obtain ⟨h4, r1⟩ := r1
        have hn4 : msgN fs k < 4 := by omega
        have hnI : (msgN fs k : Int) < 4 := by omega
        have ho : wr.cell? ⟨H, 8 + msgN fs k, none⟩ = some (.int .u64 (m t)) := by rw [show 8 + msgN fs k = t by omega]; exact (HBX.out.cell t).trans (ordA_cell_w m t (by omega) tb)
        have h4' : (4 : Int) ≤ (fs.length : Int) := by omega
        have hsl := fun w => run_slice_tail (P := Try.prog) 9 s ((fs.length : Int) - 4) (by kernel_rfl) (by omega) (by omega) w
        rw [show ((fs.length : Int) - 4).toNat = s.size - 4 by omega] at hsl
        generalize s.extract (s.size - 4) s.size = s4 at *
        clear hst hXt r2 r3 o1 o2 o4 o7 hw ta tb t1 t2 t7 t4
        generalize hn : msgN fs k = n at *
        have HN := hide hn
        clear hn r4
        go_wp2
        go_roundw
        case rel => exact ⟨k + 1, hkn, by rw [R2.out], by rw [R3.out]; go_num, by go_num, HST.out⟩
        case measure => simp [intOf]; omega
    · have hG : (formG (m 0)).length ≤ k := by unfold formG; rw [HF.out]; show fs.length ≤ k; omega
      have hcX : Blk wr (H + 1 + 1) 25 #[.int .u64 (m 0), .int .u64 (encX m 0), .int .u64 (encX m 1), .int .u64 (encX m 2), .int .u64 (encX m 3), .int .u64 (encX m 4), .int .u64 (encX m 5)] := by have := hIk.c; rw [encK_all m k hG] at this; exact this
      have hI := hIk
      clear hIk hG
      obtain rfl : k = fs.length := by omega
      obtain ⟨n0, n1, n2, n3, n4, n5, n6⟩ := hcX.c7
      have HIK := hide hI
      have HCX := hide hcX
      clear hI hcX
      go_wp2_with fail
      refine (rdecode_any (m 0) (encX m) _ (encX_u m HM.out)).mono ?_
      rintro e w3 ⟨rfl, hb3⟩
      have HV := hide (encV_alt (by have := H0.out; omega) H6.out)
      obtain ⟨m2, hm2⟩ : ∃ m2, (decV (m 0) (encX m)).1 = m2 := ⟨_, rfl⟩
      obtain ⟨c2, hc2⟩ : ∃ c2, (decV (m 0) (encX m)).2 = c2 := ⟨_, rfl⟩
      have HV1 := HV.out
      rw [hm2, hc2] at HV1
      have HV := hide HV1
      clear HV1
      rw [hm2, hc2, show ordA m2 = #[.int .i64 (m2 0), .int .i64 (m2 1), .int .i64 (m2 2), .int .i64 (m2 3), .int .i64 (m2 4), .int .i64 (m2 5), .int .i64 (m2 6), .int .u64 (m2 7), .int .u64 (m2 8), .int .u64 (m2 9), .int .u64 (m2 10), .int .u64 (m2 11)] from rfl]
      have hI3 := HIK.out.bel hb3
      have hcX3 := blk_call HCX.out hb3
      clear hm2 hc2 n0 n1 n2 n3 n4 n5 n6 hb3
      have hbox : Blk w3 H 29 #[.int .i64 (m 0), .int .i64 (m 1), .int .i64 (m 2), .int .i64 (m 3), .int .i64 (m 4), .int .i64 (m 5), .int .i64 (m 6), .int .u64 (m 7), .int .u64 (m 8), .int .u64 (m 9), .int .u64 (m 10), .int .u64 (m 11)] := hI3.box
      obtain ⟨o0, o1, o2, o3, o4, o5, o6, o7, o8, o9, o10, o11⟩ := hbox.c12
      have hs3 := hI3.size
      have l0 : H < w3.heap.size := by omega
      have l1 : H + 1 < w3.heap.size := by omega
      have l2 : H + 1 + 1 < w3.heap.size := by omega
      have HI3 := hide hI3
      have HCX3 := hide hcX3
      clear hI3 hcX3 hbox
      by_cases hcc : c2 = 0
      · cases hbb : ordB m2 m with
        | true =>
          have q : ∀ w, (Op.equalIn 10000 29 (.agg #[.int .i64 (m2 0), .int .i64 (m2 1), .int .i64 (m2 2), .int .i64 (m2 3), .int .i64 (m2 4), .int .i64 (m2 5), .int .i64 (m2 6), .int .u64 (m2 7), .int .u64 (m2 8), .int .u64 (m2 9), .int .u64 (m2 10), .int .u64 (m2 11)]) (.agg #[.int .i64 (m 0), .int .i64 (m 1), .int .i64 (m 2), .int .i64 (m 3), .int .i64 (m 4), .int .i64 (m 5), .int .i64 (m 6), .int .u64 (m 7), .int .u64 (m 8), .int .u64 (m 9), .int .u64 (m 10), .int .u64 (m 11)])).run Try.prog w = .ok true w := fun w => by rw [← hbb]; exact ord_eqA m2 m w
          have hV2 := HV.out
          rw [if_pos ⟨hcc, hbb⟩] at hV2
          have HV2 := hide hV2
          clear hV2 HV hbb
          subst hcc
          go_upto_if 146 with fail
          have hI4 := HI3.out.alloc (.cells #[.int .i64 (m2 0), .int .i64 (m2 1), .int .i64 (m2 2), .int .i64 (m2 3), .int .i64 (m2 4), .int .i64 (m2 5), .int .i64 (m2 6), .int .u64 (m2 7), .int .u64 (m2 8), .int .u64 (m2 9), .int .u64 (m2 10), .int .u64 (m2 11)] 29)
          have hcX4 := HCX3.out.alloc (.cells #[.int .i64 (m2 0), .int .i64 (m2 1), .int .i64 (m2 2), .int .i64 (m2 3), .int .i64 (m2 4), .int .i64 (m2 5), .int .i64 (m2 6), .int .u64 (m2 7), .int .u64 (m2 8), .int .u64 (m2 9), .int .u64 (m2 10), .int .u64 (m2 11)] 29)
          generalize w3.alloc (.cells #[.int .i64 (m2 0), .int .i64 (m2 1), .int .i64 (m2 2), .int .i64 (m2 3), .int .i64 (m2 4), .int .i64 (m2 5), .int .i64 (m2 6), .int .u64 (m2 7), .int .u64 (m2 8), .int .u64 (m2 9), .int .u64 (m2 10), .int .u64 (m2 11)] 29) = W4 at *
          clear l0 l1 l2 o0 o1 o2 o3 o4 o5 o6 o7 o8 o9 o10 o11 q
          obtain ⟨n0, n1, n2, n3, n4, n5, n6⟩ := hcX4.c7
          have hlt2 := hcX4.lt
          have HR4 := hide hI4.res
          have HB4 := hide hI4.below
          clear hI4
          obtain ⟨e0, e1, e2, e3, e4, e5, e6⟩ := (show Blk W4 (H + 1) 25 #[.int .u64 0, .int .u64 0, .int .u64 0, .int .u64 0, .int .u64 0, .int .u64 0, .int .u64 0] from HR4.out).c7
          obtain ⟨f0, f1, f2, f3, f4, f5, f6⟩ := (show Blk W4 (H + 1) 25 #[.int .u64 0, .int .u64 0, .int .u64 0, .int .u64 0, .int .u64 0, .int .u64 0, .int .u64 0] from HR4.out).f7
          have hlt1 := HR4.out.lt
          go_wp2
          refine bodyPost_ret (results_cell_tmp rfl _ _ (H + 1) 25 _ (0, 0) _ rfl ((show Blk W4 (H + 1) 25 #[.int .u64 0, .int .u64 0, .int .u64 0, .int .u64 0, .int .u64 0, .int .u64 0, .int .u64 0] from HR4.out).set7 _ _ _ _ _ _ _) Try.underlying25 rfl (by kernel_rfl)) rfl ⟨by rw [HV2.out]; rfl, ?_⟩
          rw [HH.out]
          exact below_set7 HB4.out (by omega) _ _ _ _ _ _ _
        | false =>
          have q : ∀ w, (Op.equalIn 10000 29 (.agg #[.int .i64 (m2 0), .int .i64 (m2 1), .int .i64 (m2 2), .int .i64 (m2 3), .int .i64 (m2 4), .int .i64 (m2 5), .int .i64 (m2 6), .int .u64 (m2 7), .int .u64 (m2 8), .int .u64 (m2 9), .int .u64 (m2 10), .int .u64 (m2 11)]) (.agg #[.int .i64 (m 0), .int .i64 (m 1), .int .i64 (m 2), .int .i64 (m 3), .int .i64 (m 4), .int .i64 (m 5), .int .i64 (m 6), .int .u64 (m 7), .int .u64 (m 8), .int .u64 (m 9), .int .u64 (m 10), .int .u64 (m 11)])).run Try.prog w = .ok false w := fun w => by rw [← hbb]; exact ord_eqA m2 m w
          have hV2 := HV.out
          rw [if_neg (by rw [hbb]; simp)] at hV2
          have HV2 := hide hV2
          clear hV2 HV hbb
          subst hcc
          go_upto_if 146 with fail
          have hI4 := HI3.out.alloc (.cells #[.int .i64 (m2 0), .int .i64 (m2 1), .int .i64 (m2 2), .int .i64 (m2 3), .int .i64 (m2 4), .int .i64 (m2 5), .int .i64 (m2 6), .int .u64 (m2 7), .int .u64 (m2 8), .int .u64 (m2 9), .int .u64 (m2 10), .int .u64 (m2 11)] 29)
          have hcX4 := HCX3.out.alloc (.cells #[.int .i64 (m2 0), .int .i64 (m2 1), .int .i64 (m2 2), .int .i64 (m2 3), .int .i64 (m2 4), .int .i64 (m2 5), .int .i64 (m2 6), .int .u64 (m2 7), .int .u64 (m2 8), .int .u64 (m2 9), .int .u64 (m2 10), .int .u64 (m2 11)] 29)
          generalize w3.alloc (.cells #[.int .i64 (m2 0), .int .i64 (m2 1), .int .i64 (m2 2), .int .i64 (m2 3), .int .i64 (m2 4), .int .i64 (m2 5), .int .i64 (m2 6), .int .u64 (m2 7), .int .u64 (m2 8), .int .u64 (m2 9), .int .u64 (m2 10), .int .u64 (m2 11)] 29) = W4 at *
          clear l0 l1 l2 o0 o1 o2 o3 o4 o5 o6 o7 o8 o9 o10 o11 q
          clear hcX4
          have HR4 := hide hI4.res
          have HB4 := hide hI4.below
          clear hI4
          obtain ⟨e0, e1, e2, e3, e4, e5, e6⟩ := (show Blk W4 (H + 1) 25 #[.int .u64 0, .int .u64 0, .int .u64 0, .int .u64 0, .int .u64 0, .int .u64 0, .int .u64 0] from HR4.out).c7
          obtain ⟨f0, f1, f2, f3, f4, f5, f6⟩ := (show Blk W4 (H + 1) 25 #[.int .u64 0, .int .u64 0, .int .u64 0, .int .u64 0, .int .u64 0, .int .u64 0, .int .u64 0] from HR4.out).f7
          have hlt1 := HR4.out.lt
          go_wp2
          refine bodyPost_ret (results_cell_tmp rfl _ _ (H + 1) 25 _ (0, 0) _ rfl ((show Blk W4 (H + 1) 25 #[.int .u64 0, .int .u64 0, .int .u64 0, .int .u64 0, .int .u64 0, .int .u64 0, .int .u64 0] from HR4.out).set7 _ _ _ _ _ _ _) Try.underlying25 rfl (by kernel_rfl)) rfl ⟨by rw [HV2.out]; rfl, ?_⟩
          rw [HH.out]
          exact below_set7 HB4.out (by omega) _ _ _ _ _ _ _
      · have hV2 := HV.out
        rw [if_neg (fun h => hcc h.1)] at hV2
        have HV2 := hide hV2
        clear hV2 HV
        go_upto_if 146 with fail
        have hI4 := HI3.out.alloc (.cells #[.int .i64 (m2 0), .int .i64 (m2 1), .int .i64 (m2 2), .int .i64 (m2 3), .int .i64 (m2 4), .int .i64 (m2 5), .int .i64 (m2 6), .int .u64 (m2 7), .int .u64 (m2 8), .int .u64 (m2 9), .int .u64 (m2 10), .int .u64 (m2 11)] 29)
        have hcX4 := HCX3.out.alloc (.cells #[.int .i64 (m2 0), .int .i64 (m2 1), .int .i64 (m2 2), .int .i64 (m2 3), .int .i64 (m2 4), .int .i64 (m2 5), .int .i64 (m2 6), .int .u64 (m2 7), .int .u64 (m2 8), .int .u64 (m2 9), .int .u64 (m2 10), .int .u64 (m2 11)] 29)
        generalize w3.alloc (.cells #[.int .i64 (m2 0), .int .i64 (m2 1), .int .i64 (m2 2), .int .i64 (m2 3), .int .i64 (m2 4), .int .i64 (m2 5), .int .i64 (m2 6), .int .u64 (m2 7), .int .u64 (m2 8), .int .u64 (m2 9), .int .u64 (m2 10), .int .u64 (m2 11)] 29) = W4 at *
        clear l0 l1 l2 o0 o1 o2 o3 o4 o5 o6 o7 o8 o9 o10 o11
        clear hcX4
        have HR4 := hide hI4.res
        have HB4 := hide hI4.below
        clear hI4
        obtain ⟨e0, e1, e2, e3, e4, e5, e6⟩ := (show Blk W4 (H + 1) 25 #[.int .u64 0, .int .u64 0, .int .u64 0, .int .u64 0, .int .u64 0, .int .u64 0, .int .u64 0] from HR4.out).c7
        obtain ⟨f0, f1, f2, f3, f4, f5, f6⟩ := (show Blk W4 (H + 1) 25 #[.int .u64 0, .int .u64 0, .int .u64 0, .int .u64 0, .int .u64 0, .int .u64 0, .int .u64 0] from HR4.out).f7
        have hlt1 := HR4.out.lt
        go_wp2
        refine bodyPost_ret (results_cell_tmp rfl _ _ (H + 1) 25 _ (0, 0) _ rfl ((show Blk W4 (H + 1) 25 #[.int .u64 0, .int .u64 0, .int .u64 0, .int .u64 0, .int .u64 0, .int .u64 0, .int .u64 0] from HR4.out).set7 _ _ _ _ _ _ _) Try.underlying25 rfl (by kernel_rfl)) rfl ⟨by rw [HV2.out]; rfl, ?_⟩
        rw [HH.out]
        exact below_set7 HB4.out (by omega) _ _ _ _ _ _ _
theorem rencode_any (m : Nat → Int) (w : World) (hm : OrdB m) : Calls Try.prog 13 #[.agg (ordA m)] w (EncPost (encV m) w) := by
  by_cases h0 : m 0 < 0
  · exact rencode_neg m w hm h0
  cases hf : formL (m 0) with
  | none => exact rencode_none m w hm h0 hf
  | some fs =>
    by_cases h1 : m 0 = 1
    · exact rencode_one m w hm h1
    · exact rencode_some m w hm h0 h1 fs hf
end Go.Proofs.Ytofmcaagnhdecaa
