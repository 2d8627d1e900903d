/- The walk of the reference's Decode. -/
import Derived.Test.YtofmcaagnhdecaaDecRP
import Derived.Test.YtofmcaagnhdecaaDecRO
import Derived.Deep.QuietTactic
import Derived.BigQuiet
namespace Go.Proofs.Ytofmcaagnhdecaa
open Go.RowKit Go.Shelf
theorem callA_cello (op : Int) (x : Nat → Int) (k : Nat) (hk : k < 6) : (callA op x)[k + 1]? = some (.int .u64 (x k)) := by
  have : k = 0 ∨ k = 1 ∨ k = 2 ∨ k = 3 ∨ k = 4 ∨ k = 5 := by omega
  rcases this with rfl | rfl | rfl | rfl | rfl | rfl <;> rfl
theorem rdec_w {w : World} {t0 t1 : TypeId} (ca za : Array Value) : Blk ((w.alloc (.cells ca t0)).alloc (.cells za t1)) w.heap.size t0 ca ∧ Blk ((w.alloc (.cells ca t0)).alloc (.cells za t1)) (w.heap.size + 1) t1 za ∧ Below w.heap.size w ((w.alloc (.cells ca t0)).alloc (.cells za t1)) ∧ w.heap.size + 2 ≤ ((w.alloc (.cells ca t0)).alloc (.cells za t1)).heap.size := by
  have b0 := (Blk.new w t0 ca).alloc (.cells za t1)
  have b1 := Blk.new (w.alloc (.cells ca t0)) t1 za
  simp only [World.size_alloc] at b1
  exact ⟨b0, b1, ((Below.refl _ w).alloc (Nat.le_refl _) _).alloc (by simp) _, by simp⟩
set_option maxRecDepth 100000 in
set_option maxHeartbeats 1000000 in
theorem rdecode_none (op : Int) (x : Nat → Int) (w : World) (hn : formL op = none) : Calls Try.prog 8 #[.agg (callA op x)] w (DecPost (decV op x) w) := by
  have hV : decV op x = (fun _ => 0, 2) := by unfold decV; rw [hn]
  rw [hV]
  have hs := formSB_none hn
  have HS := hide hs
  clear hn hV hs
  unfold callA
  go_enter Try.func8, Try.ntmps8
  go_upto_region 1 with fail
  obtain ⟨c0, c1, hB, hz⟩ := rdec_w (w := w) (t0 := 25) (t1 := 29) #[.int .u64 op, .int .u64 (x 0), .int .u64 (x 1), .int .u64 (x 2), .int .u64 (x 3), .int .u64 (x 4), .int .u64 (x 5)] #[.int .i64 0, .int .i64 0, .int .i64 0, .int .i64 0, .int .i64 0, .int .i64 0, .int .i64 0, .int .u64 0, .int .u64 0, .int .u64 0, .int .u64 0, .int .u64 0]
  generalize (w.alloc (.cells #[.int .u64 op, .int .u64 (x 0), .int .u64 (x 1), .int .u64 (x 2), .int .u64 (x 3), .int .u64 (x 4), .int .u64 (x 5)] 25)).alloc (.cells #[.int .i64 0, .int .i64 0, .int .i64 0, .int .i64 0, .int .i64 0, .int .i64 0, .int .i64 0, .int .u64 0, .int .u64 0, .int .u64 0, .int .u64 0, .int .u64 0] 29) = W at *
  generalize hH : w.heap.size = H at *
  have HH := hide hH
  clear hH
  have n0 := c0.cell 0
  obtain ⟨e0, e1, e2, e3, e4, e5, e6, e7, e8, e9, e10, e11⟩ := c1.c12
  obtain ⟨f0, f1, f2, f3, f4, f5, f6, f7, f8, f9, f10, f11⟩ := c1.f12
  have l1 := c1.lt
  have l0 := c0.lt
  go_wp2_with fail
  refine (rform_any op _).mono ?_
  rintro e w2 ⟨rfl, rfl⟩
  rw [HS.out]
  have q : ((⟨#[63]⟩ : ByteArray).toList == [63]) = true := by decide +kernel
  go_wp2
  refine bodyPost_ret (results_cell_tmp rfl _ _ (H + 1) 29 _ (0, 0) _ rfl (c1.set12 _ _ _ _ _ _ _ _ _ _ _ _) Try.underlying29 rfl (by kernel_rfl)) rfl ⟨rfl, ?_⟩
  rw [HH.out]
  exact below_set12 hB (by omega) _ _ _ _ _ _ _ _ _ _ _ _
set_option maxRecDepth 100000 in
set_option maxHeartbeats 4000000 in
theorem rdecode_some (op : Int) (x : Nat → Int) (w : World) (fs : List (Int × Int × Nat)) (hf : formL op = some fs) (hx : U64 x) : Calls Try.prog 8 #[.agg (callA op x)] w (DecPost (decV op x) w) := by
  have hL := letters_of hf
  have hO := fun w h => rorder_any hf x w h
  have hform := rform_any op
  generalize formSB op = s at hL hO hform
  obtain ⟨hlen, hok, ho1, ho2⟩ := formL_ok hf
  have hV : decV op x = if op = 1 ∧ objB (x 1) (x 2) = false then (fun _ => 0, 2) else if tailBad fs.length x 6 then (fun _ => 0, 2) else if rangeBad fs x 6 then (fun _ => 0, 3) else (finM op (mTo fs x 6), 0) := by unfold decV; rw [hf]
  have HV := hide hV
  have HO := hide hO
  have HL := hide hL
  have HX := hide hx
  have HF := hide hf
  have q := hL.some_
  have hsz := hL.size
  have hs6 : s.size ≤ 6 := by omega
  clear hV hO hL hx hok hf ho1 ho2 hlen
  unfold callA
  go_enter Try.func8, Try.ntmps8
  go_upto_region 1 with fail
  obtain ⟨c0, c1, hB, hz⟩ := rdec_w (w := w) (t0 := 25) (t1 := 29) #[.int .u64 op, .int .u64 (x 0), .int .u64 (x 1), .int .u64 (x 2), .int .u64 (x 3), .int .u64 (x 4), .int .u64 (x 5)] #[.int .i64 0, .int .i64 0, .int .i64 0, .int .i64 0, .int .i64 0, .int .i64 0, .int .i64 0, .int .u64 0, .int .u64 0, .int .u64 0, .int .u64 0, .int .u64 0]
  generalize (w.alloc (.cells #[.int .u64 op, .int .u64 (x 0), .int .u64 (x 1), .int .u64 (x 2), .int .u64 (x 3), .int .u64 (x 4), .int .u64 (x 5)] 25)).alloc (.cells #[.int .i64 0, .int .i64 0, .int .i64 0, .int .i64 0, .int .i64 0, .int .i64 0, .int .i64 0, .int .u64 0, .int .u64 0, .int .u64 0, .int .u64 0, .int .u64 0] 29) = W at *
  generalize hH : w.heap.size = H at *
  have HH := hide hH
  clear hH
  have n0 := c0.cell 0
  have l1 := c1.lt
  have l0 := c0.lt
  go_wp2_with fail
  refine (hform _).mono ?_
  rintro e w2 ⟨rfl, rfl⟩
  clear hform
  go_wp2
  go_loopw [5] (fun i wr => ∃ k : Nat, fs.length ≤ k ∧ k ≤ 6 ∧ i = .int .i64 k ∧ tailBad fs.length x k = false ∧ wr = W) (fun i _ => 6 - (intOf i).toNat)
  case atStart => exact ⟨fs.length, Nat.le_refl _, by omega, rfl, tailBad_lo (Nat.le_refl _), rfl⟩
  case round =>
    obtain ⟨k, hk, hk6, rfl, ht, rfl⟩ := hrel
    have HT := hide ht
    clear ht
    by_cases hkn : k < 6
    · have hck : wr.cell? ⟨H, 1 + k, none⟩ = some (.int .u64 (x k)) := by rw [Nat.add_comm 1 k]; exact (c0.cell (k + 1)).trans (callA_cello op x k hkn)
      by_cases hx0 : x k = 0
      · have d : (x k == 0) = true := by simpa using hx0
        go_wp2
        go_roundw
        case rel => exact ⟨k + 1, by omega, by omega, by go_num, tailBad_in HT.out (.inr hx0), trivial⟩
        case measure => simp [intOf]; omega
      · have d : (x k == 0) = false := by simpa using hx0
        have HV2 : Hid (decV op x = (fun _ => 0, 2)) := hide (by
          have htb : tailBad fs.length x 6 = true := tailBad_le (tailBad_at (by omega) hx0) (by omega)
          rw [HV.out, if_pos htb]
          simp)
        obtain ⟨e0, e1, e2, e3, e4, e5, e6, e7, e8, e9, e10, e11⟩ := c1.c12
        obtain ⟨f0, f1, f2, f3, f4, f5, f6, f7, f8, f9, f10, f11⟩ := c1.f12
        go_wp2
        refine bodyPost_ret (results_cell_tmp rfl _ _ (H + 1) 29 _ (0, 0) _ rfl (c1.set12 _ _ _ _ _ _ _ _ _ _ _ _) Try.underlying29 rfl (by kernel_rfl)) rfl ⟨by rw [HV2.out]; rfl, ?_⟩
        rw [HH.out]
        exact below_set12 hB (by omega) _ _ _ _ _ _ _ _ _ _ _ _
    · obtain rfl : k = 6 := by omega
      clear hk hk6 hkn
      have htb := HT.out
      have hW : ∃ F : Prop, F := ⟨True, trivial⟩
      by_cases hop : op = 1
      case pos =>
        subst hop
        have d1 : True := trivial
        obtain ⟨n0', n1, n2, n3, n4, n5, n6⟩ := c0.c7
        clear n0' n1 n4 n5 n6 n0
        have hu1 := HX.out 1
        have hu2 := HX.out 2
        have n0 : wr.cell? ⟨H, 0, none⟩ = some (.int .u64 1) := c0.cell 0
        by_cases hb : objB (x 1) (x 2) = false
        case pos =>
          have HV2 : Hid (decV 1 x = (fun _ => 0, 2)) := hide (by rw [HV.out, if_pos ⟨rfl, hb⟩])
          rw [objB_bad hu1.1 hu2.1] at hb
          obtain ⟨e0, e1, e2, e3, e4, e5, e6, e7, e8, e9, e10, e11⟩ := c1.c12
          obtain ⟨f0, f1, f2, f3, f4, f5, f6, f7, f8, f9, f10, f11⟩ := c1.f12
          clear hW
          by_cases hb1 : 100 < x 1
          case' pos =>
            clear hb
            go_wp2_with fail
          case' neg =>
            by_cases hb2 : 100 < x 2
            case' pos =>
              clear hb
              go_wp2_with fail
            case' neg =>
              have hF0 : framesV (x 1) (x 2) = 0 := by omega
              have HF0 := hide hF0
              clear hb hF0
              go_wp2_with fail
              refine (rframes_any _ _ _).mono ?_
              rintro e w' ⟨rfl, rfl⟩
              rw [HF0.out]
              go_wp2_with fail
          all_goals
            refine bodyPost_ret (results_cell_tmp rfl _ _ (H + 1) 29 _ (0, 0) _ rfl (c1.set12 _ _ _ _ _ _ _ _ _ _ _ _) Try.underlying29 rfl (by kernel_rfl)) rfl ⟨by rw [HV2.out]; rfl, ?_⟩
            rw [HH.out]
            exact below_set12 hB (by omega) _ _ _ _ _ _ _ _ _ _ _ _
        case neg =>
          have HV2 : Hid (decV 1 x = if rangeBad fs x 6 then (fun _ => 0, 3) else (finM 1 (mTo fs x 6), 0)) := hide (by rw [HV.out, if_neg (fun h => hb h.2), if_neg (by rw [htb]; simp)])
          have hb' : objB (x 1) (x 2) = true := by simpa using hb
          obtain ⟨hb1, hb2⟩ := objB_good hb'
          have hF0 : (framesV (x 1) (x 2) == 0) = false := by
            have := mt (objB_bad hu1.1 hu2.1).2 hb
            simp only [beq_eq_false_iff_ne]
            omega
          have hfit : ∀ k L f, pairB 1 k L f = true → fitL L (x k) = inr f (x k) := fun k L f hp => pair_fit hp (HX.out k) (fun _ h => by rw [h]; exact hb1) (fun _ h => by rw [h]; exact hb2)
          have HFT := hide hfit
          clear hfit hb hW
          generalize hFV : framesV (x 1) (x 2) = FV at hF0
          have HFV := hide hFV
          clear hFV
          go_wp2_with fail
          refine (rframes_any _ _ _).mono ?_
          rintro e w' ⟨rfl, rfl⟩
          rw [HFV.out]
          go_upto_region 12 with fail
          clear n2 n3 hu1 hu2 hb1 hb2 hF0 hb'
          have HTB := hide htb
          clear htb d1 n0
          have hA : Blk wr H 25 (callA 1 x) ∧ Blk wr (H + 1) 29 (ordA fun _ => 0) ∧ Below H w wr ∧ H + 2 ≤ wr.heap.size := ⟨c0, c1, hB, hz⟩
          clear c0 c1 hB hz l0 l1
          generalize hW1 : wr = W1 at *
          clear hW1
          go_wp2_with fail
          go_loopw [6] (fun i wq => ∃ k : Nat, k ≤ fs.length ∧ i = .int .i64 k ∧ rangeBad fs x k = false ∧ Blk wq H 25 (callA 1 x) ∧ Blk wq (H + 1) 29 (ordA fun _ => 0) ∧ Below H w wq ∧ H + 2 ≤ wq.heap.size) (fun i _ => 6 - (intOf i).toNat)
          case atStart => exact ⟨0, Nat.zero_le _, rfl, rfl, hA⟩
          case round =>
            obtain ⟨k, hk, rfl, hr, c0, c1, hB, hz⟩ := hrel
            clear hA
            have HR := hide hr
            clear hr
            have l0 := c0.lt
            have l1 := c1.lt
            by_cases hkn : k < fs.length
            · obtain ⟨f, hf⟩ : ∃ f, fs[k]? = some f := ⟨_, List.getElem?_eq_getElem hkn⟩
              obtain ⟨L, hidx, hp⟩ := HL.out.at_ k f hf
              have hfi := HFT.out k L f hp
              have HFf := hide hf
              have hkn6 : k < 6 := by omega
              have hkI : (k : Int) < 6 := by omega
              have hkJ : (k : Int) < (fs.length : Int) := by omega
              have hck : wr.cell? ⟨H, 1 + k, none⟩ = some (.int .u64 (x k)) := by rw [Nat.add_comm 1 k]; exact (c0.cell (k + 1)).trans (callA_cello 1 x k hkn6)
              by_cases hi : inr f (x k) = true
              · have hcall : ∀ w, Calls Try.prog 20 #[.int .u8 L, .int .u64 (x k)] w fun e w' => e = .returned (.bool true) ∧ w' = w := fun w => by rw [← hi, ← hfi]; exact (rfits_any L (x k) w).mono fun _ _ h => ⟨h.1, h.2.symm⟩
                have HI := hide hi
                clear hi hf hp hfi
                go_upto_region 15 with fail
                go_quiet ((go_at_call 20; exact Calls.quiet_of_same (hcall _)))
                go_wp2
                go_roundw
                case rel =>
                  refine ⟨k + 1, hkn, by go_num, ?_, blk_call c0 (below_drewN (Below.refl _ wr) _), blk_call c1 (below_drewN (Below.refl _ wr) _), below_drewN hB _, hz⟩
                  rw [rangeBad_in (fun f' hf' => by rw [HFf.out] at hf'; cases hf'; exact HI.out)]
                  exact HR.out
                case measure => simp [intOf]; omega
              · have hi' : inr f (x k) = false := by simpa using hi
                have hcall : ∀ w, Calls Try.prog 20 #[.int .u8 L, .int .u64 (x k)] w fun e w' => e = .returned (.bool false) ∧ w' = w := fun w => by rw [← hi', ← hfi]; exact (rfits_any L (x k) w).mono fun _ _ h => ⟨h.1, h.2.symm⟩
                have HV3 : Hid (decV 1 x = (fun _ => 0, 3)) := hide (by
                  have hrb : rangeBad fs x 6 = true := rangeBad_le (rangeBad_out hf hi') (by omega)
                  rw [HV2.out, if_pos hrb])
                clear hi hi' hf hp hfi
                go_upto_region 15 with fail
                go_quiet ((go_at_call 20; exact Calls.quiet_of_same (hcall _)))
                rename_i nq
                have c1' := blk_call c1 (below_drewN (Below.refl _ wr) nq)
                have hB' := below_drewN hB nq
                have hz' : H + 2 ≤ (wr.drewN nq).heap.size := hz
                clear c0 c1 hB hz hck l0 l1 hcall hidx
                generalize wr.drewN nq = W3 at *
                obtain ⟨e0, e1, e2, e3, e4, e5, e6, e7, e8, e9, e10, e11⟩ := (show Blk W3 (H + 1) 29 #[.int .i64 0, .int .i64 0, .int .i64 0, .int .i64 0, .int .i64 0, .int .i64 0, .int .i64 0, .int .u64 0, .int .u64 0, .int .u64 0, .int .u64 0, .int .u64 0] from c1').c12
                obtain ⟨f0, f1, f2, f3, f4, f5, f6, f7, f8, f9, f10, f11⟩ := c1'.f12
                have l1 := c1'.lt
                go_wp2
                refine bodyPost_ret (results_cell_tmp rfl _ _ (H + 1) 29 _ (0, 0) _ rfl ((show Blk W3 (H + 1) 29 #[.int .i64 0, .int .i64 0, .int .i64 0, .int .i64 0, .int .i64 0, .int .i64 0, .int .i64 0, .int .u64 0, .int .u64 0, .int .u64 0, .int .u64 0, .int .u64 0] from c1').set12 _ _ _ _ _ _ _ _ _ _ _ _) Try.underlying29 rfl (by kernel_rfl)) rfl ⟨by rw [HV3.out]; rfl, ?_⟩
                rw [HH.out]
                exact below_set12 hB' (by omega) _ _ _ _ _ _ _ _ _ _ _ _
            · obtain rfl : k = fs.length := by omega
              have hr6 : rangeBad fs x 6 = false := rangeBad_hi HR.out (by omega)
              have HV3 : Hid (decV 1 x = (finM 1 (mTo fs x 6), 0)) := hide (by rw [HV2.out, hr6]; rfl)
              have hO := fun w => HO.out w hr6
              generalize finM 1 (mTo fs x 6) = m2 at *
              rw [show ordA m2 = #[.int .i64 (m2 0), .int .i64 (m2 1), .int .i64 (m2 2), .int .i64 (m2 3), .int .i64 (m2 4), .int .i64 (m2 5), .int .i64 (m2 6), .int .u64 (m2 7), .int .u64 (m2 8), .int .u64 (m2 9), .int .u64 (m2 10), .int .u64 (m2 11)] from rfl] at hO
              clear hr6
              obtain ⟨n0, n1, n2, n3, n4, n5, n6⟩ := (show Blk wr H 25 #[.int .u64 1, .int .u64 (x 0), .int .u64 (x 1), .int .u64 (x 2), .int .u64 (x 3), .int .u64 (x 4), .int .u64 (x 5)] from c0).c7
              go_wp2_with fail
              refine (hO _).mono ?_
              rintro e w3 ⟨rfl, hb3⟩
              have c1' := blk_call c1 hb3
              have hB' := hB.trans (hb3.mono (by omega))
              have hz' : H + 2 ≤ w3.heap.size := by have := hb3.size; omega
              clear c0 c1 hB hz hO hb3 n0 n1 n2 n3 n4 n5 n6 l0 l1
              obtain ⟨e0, e1, e2, e3, e4, e5, e6, e7, e8, e9, e10, e11⟩ := (show Blk w3 (H + 1) 29 #[.int .i64 0, .int .i64 0, .int .i64 0, .int .i64 0, .int .i64 0, .int .i64 0, .int .i64 0, .int .u64 0, .int .u64 0, .int .u64 0, .int .u64 0, .int .u64 0] from c1').c12
              obtain ⟨f0, f1, f2, f3, f4, f5, f6, f7, f8, f9, f10, f11⟩ := c1'.f12
              have l1 := c1'.lt
              go_wp2
              refine bodyPost_ret (results_cell_tmp rfl _ _ (H + 1) 29 _ (0, 0) _ rfl ((show Blk w3 (H + 1) 29 #[.int .i64 0, .int .i64 0, .int .i64 0, .int .i64 0, .int .i64 0, .int .i64 0, .int .i64 0, .int .u64 0, .int .u64 0, .int .u64 0, .int .u64 0, .int .u64 0] from c1').set12 _ _ _ _ _ _ _ _ _ _ _ _) Try.underlying29 rfl (by kernel_rfl)) rfl ⟨by rw [HV3.out]; rfl, ?_⟩
              rw [HH.out]
              exact below_set12 hB' (by omega) _ _ _ _ _ _ _ _ _ _ _ _
      case neg =>
        have HV2 : Hid (decV op x = if rangeBad fs x 6 then (fun _ => 0, 3) else (finM op (mTo fs x 6), 0)) := hide (by rw [HV.out, if_neg (fun h => hop h.1), if_neg (by rw [htb]; simp)])
        have d1 : (op == 1) = false := by simpa using hop
        have hfit : ∀ k L f, pairB op k L f = true → fitL L (x k) = inr f (x k) := fun k L f hp => pair_fit hp (HX.out k) (fun h _ => absurd h hop) (fun h _ => absurd h hop)
        have HFT := hide hfit
        clear hfit hW
        go_upto_region 12 with fail
        have HTB := hide htb
        clear htb d1 n0
        have hA : Blk wr H 25 (callA op x) ∧ Blk wr (H + 1) 29 (ordA fun _ => 0) ∧ Below H w wr ∧ H + 2 ≤ wr.heap.size := ⟨c0, c1, hB, hz⟩
        clear c0 c1 hB hz l0 l1
        generalize hW1 : wr = W1 at *
        clear hW1
        go_wp2_with fail
        go_loopw [6] (fun i wq => ∃ k : Nat, k ≤ fs.length ∧ i = .int .i64 k ∧ rangeBad fs x k = false ∧ Blk wq H 25 (callA op x) ∧ Blk wq (H + 1) 29 (ordA fun _ => 0) ∧ Below H w wq ∧ H + 2 ≤ wq.heap.size) (fun i _ => 6 - (intOf i).toNat)
        case atStart => exact ⟨0, Nat.zero_le _, rfl, rfl, hA⟩
        case round =>
          obtain ⟨k, hk, rfl, hr, c0, c1, hB, hz⟩ := hrel
          clear hA
          have HR := hide hr
          clear hr
          have l0 := c0.lt
          have l1 := c1.lt
          by_cases hkn : k < fs.length
          · obtain ⟨f, hf⟩ : ∃ f, fs[k]? = some f := ⟨_, List.getElem?_eq_getElem hkn⟩
            obtain ⟨L, hidx, hp⟩ := HL.out.at_ k f hf
            have hfi := HFT.out k L f hp
            have HFf := hide hf
            have hkn6 : k < 6 := by omega
            have hkI : (k : Int) < 6 := by omega
            have hkJ : (k : Int) < (fs.length : Int) := by omega
            have hck : wr.cell? ⟨H, 1 + k, none⟩ = some (.int .u64 (x k)) := by rw [Nat.add_comm 1 k]; exact (c0.cell (k + 1)).trans (callA_cello op x k hkn6)
            by_cases hi : inr f (x k) = true
            · have hcall : ∀ w, Calls Try.prog 20 #[.int .u8 L, .int .u64 (x k)] w fun e w' => e = .returned (.bool true) ∧ w' = w := fun w => by rw [← hi, ← hfi]; exact (rfits_any L (x k) w).mono fun _ _ h => ⟨h.1, h.2.symm⟩
              have HI := hide hi
              clear hi hf hp hfi
              go_upto_region 15 with fail
              go_quiet ((go_at_call 20; exact Calls.quiet_of_same (hcall _)))
              go_wp2
              go_roundw
              case rel =>
                refine ⟨k + 1, hkn, by go_num, ?_, blk_call c0 (below_drewN (Below.refl _ wr) _), blk_call c1 (below_drewN (Below.refl _ wr) _), below_drewN hB _, hz⟩
                rw [rangeBad_in (fun f' hf' => by rw [HFf.out] at hf'; cases hf'; exact HI.out)]
                exact HR.out
              case measure => simp [intOf]; omega
            · have hi' : inr f (x k) = false := by simpa using hi
              have hcall : ∀ w, Calls Try.prog 20 #[.int .u8 L, .int .u64 (x k)] w fun e w' => e = .returned (.bool false) ∧ w' = w := fun w => by rw [← hi', ← hfi]; exact (rfits_any L (x k) w).mono fun _ _ h => ⟨h.1, h.2.symm⟩
              have HV3 : Hid (decV op x = (fun _ => 0, 3)) := hide (by
                have hrb : rangeBad fs x 6 = true := rangeBad_le (rangeBad_out hf hi') (by omega)
                rw [HV2.out, if_pos hrb])
              clear hi hi' hf hp hfi
              go_upto_region 15 with fail
              go_quiet ((go_at_call 20; exact Calls.quiet_of_same (hcall _)))
              rename_i nq
              have c1' := blk_call c1 (below_drewN (Below.refl _ wr) nq)
              have hB' := below_drewN hB nq
              have hz' : H + 2 ≤ (wr.drewN nq).heap.size := hz
              clear c0 c1 hB hz hck l0 l1 hcall hidx
              generalize wr.drewN nq = W3 at *
              obtain ⟨e0, e1, e2, e3, e4, e5, e6, e7, e8, e9, e10, e11⟩ := (show Blk W3 (H + 1) 29 #[.int .i64 0, .int .i64 0, .int .i64 0, .int .i64 0, .int .i64 0, .int .i64 0, .int .i64 0, .int .u64 0, .int .u64 0, .int .u64 0, .int .u64 0, .int .u64 0] from c1').c12
              obtain ⟨f0, f1, f2, f3, f4, f5, f6, f7, f8, f9, f10, f11⟩ := c1'.f12
              have l1 := c1'.lt
              go_wp2
              refine bodyPost_ret (results_cell_tmp rfl _ _ (H + 1) 29 _ (0, 0) _ rfl ((show Blk W3 (H + 1) 29 #[.int .i64 0, .int .i64 0, .int .i64 0, .int .i64 0, .int .i64 0, .int .i64 0, .int .i64 0, .int .u64 0, .int .u64 0, .int .u64 0, .int .u64 0, .int .u64 0] from c1').set12 _ _ _ _ _ _ _ _ _ _ _ _) Try.underlying29 rfl (by kernel_rfl)) rfl ⟨by rw [HV3.out]; rfl, ?_⟩
              rw [HH.out]
              exact below_set12 hB' (by omega) _ _ _ _ _ _ _ _ _ _ _ _
          · obtain rfl : k = fs.length := by omega
            have hr6 : rangeBad fs x 6 = false := rangeBad_hi HR.out (by omega)
            have HV3 : Hid (decV op x = (finM op (mTo fs x 6), 0)) := hide (by rw [HV2.out, hr6]; rfl)
            have hO := fun w => HO.out w hr6
            generalize finM op (mTo fs x 6) = m2 at *
            rw [show ordA m2 = #[.int .i64 (m2 0), .int .i64 (m2 1), .int .i64 (m2 2), .int .i64 (m2 3), .int .i64 (m2 4), .int .i64 (m2 5), .int .i64 (m2 6), .int .u64 (m2 7), .int .u64 (m2 8), .int .u64 (m2 9), .int .u64 (m2 10), .int .u64 (m2 11)] from rfl] at hO
            clear hr6
            obtain ⟨n0, n1, n2, n3, n4, n5, n6⟩ := (show Blk wr H 25 #[.int .u64 op, .int .u64 (x 0), .int .u64 (x 1), .int .u64 (x 2), .int .u64 (x 3), .int .u64 (x 4), .int .u64 (x 5)] from c0).c7
            go_wp2_with fail
            refine (hO _).mono ?_
            rintro e w3 ⟨rfl, hb3⟩
            have c1' := blk_call c1 hb3
            have hB' := hB.trans (hb3.mono (by omega))
            have hz' : H + 2 ≤ w3.heap.size := by have := hb3.size; omega
            clear c0 c1 hB hz hO hb3 n0 n1 n2 n3 n4 n5 n6 l0 l1
            obtain ⟨e0, e1, e2, e3, e4, e5, e6, e7, e8, e9, e10, e11⟩ := (show Blk w3 (H + 1) 29 #[.int .i64 0, .int .i64 0, .int .i64 0, .int .i64 0, .int .i64 0, .int .i64 0, .int .i64 0, .int .u64 0, .int .u64 0, .int .u64 0, .int .u64 0, .int .u64 0] from c1').c12
            obtain ⟨f0, f1, f2, f3, f4, f5, f6, f7, f8, f9, f10, f11⟩ := c1'.f12
            have l1 := c1'.lt
            go_wp2
            refine bodyPost_ret (results_cell_tmp rfl _ _ (H + 1) 29 _ (0, 0) _ rfl ((show Blk w3 (H + 1) 29 #[.int .i64 0, .int .i64 0, .int .i64 0, .int .i64 0, .int .i64 0, .int .i64 0, .int .i64 0, .int .u64 0, .int .u64 0, .int .u64 0, .int .u64 0, .int .u64 0] from c1').set12 _ _ _ _ _ _ _ _ _ _ _ _) Try.underlying29 rfl (by kernel_rfl)) rfl ⟨by rw [HV3.out]; rfl, ?_⟩
            rw [HH.out]
            exact below_set12 hB' (by omega) _ _ _ _ _ _ _ _ _ _ _ _
end Go.Proofs.Ytofmcaagnhdecaa
