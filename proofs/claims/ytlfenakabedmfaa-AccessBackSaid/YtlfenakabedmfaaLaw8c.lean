/- Chapter 8: the walk of AccessBack. -/
import Derived.Test.YtlfenakabedmfaaLaw8b
namespace Go.Proofs.Ytlfenakabedmfaa
open Go.RowKit Go.Shelf
set_option maxRecDepth 100000 in
set_option maxHeartbeats 4000000 in
theorem law_AccessBack (p q v : Int) (_ : (Lit.int .i64 p).wf = true) (_ : (Lit.int .i64 q).wf = true) (hwv : (Lit.int .u64 v).wf = true) (w : World) : Calls Try.prog 7 #[.int .i64 p, .int .i64 q, .int .u64 v] w fun e w' => e = .returned (.bool true) ∧ Below w.heap.size w w' := by
  have hv := wfu hwv
  go_enter Try.func7, Try.ntmps7
  go_wp2_with fail
  refine (ready_any _).mono ?_
  rintro e w1 ⟨H, gb, cap, tl, gf, RH, rgb, rcap, rtl, rf, rfl, hS, hB⟩
  generalize hB0 : w.heap.size = B at *
  have HB0 := hide hB0
  have HS := hide hS
  have HB := hide hB
  clear hB0 hS hB
  have hP := low_bd p (n := 8) (by decide)
  have hQ := low_bd q (n := 8) (by decide)
  have HLP := hide (fun w => low_any p 8 w (by decide) (by decide))
  have HLQ := hide (fun w => low_any q 8 w (by decide) (by decide))
  generalize lowV p 8 = P at HLP hP
  generalize lowV q 8 = Q at HLQ hQ
  obtain ⟨P, rfl⟩ : ∃ n : Nat, P = n := ⟨P.toNat, by omega⟩
  obtain ⟨Q, rfl⟩ : ∃ n : Nat, Q = n := ⟨Q.toNat, by omega⟩
  obtain ⟨p0, p1⟩ := hP
  obtain ⟨q0, q1⟩ := hQ
  have HWY := hide (bk_way P Q (by omega) (by omega) v)
  have hu0 : 0 ≤ 64 * (P : Int) + 8 * (Q : Int) := by omega
  have x1 : IntKind.i64.wrap (64 * (P : Int)) = 64 * (P : Int) := by rw [IntKind.wrap_i64]; omega
  have x2 : IntKind.i64.wrap (8 * (Q : Int)) = 8 * (Q : Int) := by rw [IntKind.wrap_i64]; omega
  have x3 : IntKind.i64.wrap (64 * (P : Int) + 8 * (Q : Int)) = 64 * (P : Int) + 8 * (Q : Int) := by rw [IntKind.wrap_i64]; omega
  have x4 : IntKind.u64.wrap (64 * (P : Int) + 8 * (Q : Int)) = 64 * (P : Int) + 8 * (Q : Int) := by rw [IntKind.wrap_u64]; omega
  go_wp2_with fail
  refine (HLP.out _).mono ?_
  rintro e w' ⟨rfl, rfl⟩
  go_wp2_with fail
  refine (HLQ.out _).mono ?_
  rintro e w' ⟨rfl, rfl⟩
  go_upto_region 5 with fail
  generalize 64 * (P : Int) + 8 * (Q : Int) = u at HWY hu0 ⊢
  clear x1 x2 x3 x4
  have HF1 := hide (show bkF u = accF 2 readyK 8 (readyM 9) 0 u true from rfl)
  have HG1 := hide (show bkG u v = accF 2 (accK 2 readyK 8 (readyM 9) 0 u) 8 (accM 2 readyK 8 (readyM 9) 0 u v) 0 u false from rfl)
  have HX1 := hide (show bkX u v = accL 2 (accK 2 readyK 8 (readyM 9) 0 u) 8 (accM 2 readyK 8 (readyM 9) 0 u v) 0 u from rfl)
  have HH1 := hide (show bkH u v = accF 2 (accK 2 (accK 2 readyK 8 (readyM 9) 0 u) 8 (accM 2 readyK 8 (readyM 9) 0 u v) 0 u) 8 (accM 2 readyK 8 (readyM 9) 0 u v) 1 u false from rfl)
  have HY1 := hide (show bkY u v = accL 2 (accK 2 (accK 2 readyK 8 (readyM 9) 0 u) 8 (accM 2 readyK 8 (readyM 9) 0 u v) 0 u) 8 (accM 2 readyK 8 (readyM 9) 0 u v) 1 u from rfl)
  have HG0 := hide readyK_good
  have HGA := hide (readyK_good.accK 8 (readyM 9) 0 u)
  generalize bkF u = F at HWY HF1
  generalize bkG u v = G at HWY HG1
  generalize bkH u v = Hk at HWY HH1
  generalize bkX u v = X at HWY HX1
  generalize bkY u v = Y at HWY HY1
  have HGB := hide (HGA.out.accK 8 (accM 2 readyK 8 (readyM 9) 0 u v) 0 u)
  have HST := hide (fun W (h : Sides W B H gb cap tl gf RH rgb rcap rtl rf readyK readyK (readyM 9) (readyM 9)) => astore_any H gb cap 2 tl readyK (gf + 1) gf 8 8 (readyM 9) 0 u v W h.cores h.mem HG0.out.ok hu0 hv (frOk_good HG0.out _ _ _ _))
  rw [← HF1.out] at HST
  generalize accK 2 readyK 8 (readyM 9) 0 u = K1 at *
  generalize accM 2 readyK 8 (readyM 9) 0 u v = M1 at *
  have HLX := hide (fun W (h : Sides W B H gb cap tl gf RH rgb rcap rtl rf K1 readyK M1 (readyM 9)) => aload_any H gb cap 2 tl K1 (gf + 1) gf 8 8 M1 0 u W h.cores h.mem HGA.out.ok hu0 (frOk_good HGA.out _ _ _ _))
  rw [← HX1.out, ← HG1.out] at HLX
  generalize accK 2 K1 8 M1 0 u = K2 at *
  have HLY := hide (fun W (h : Sides W B H gb cap tl gf RH rgb rcap rtl rf K2 readyK M1 (readyM 9)) => aload_any H gb cap 2 tl K2 (gf + 1) gf 8 8 M1 1 u W h.cores h.mem HGB.out.ok hu0 (frOk_good HGB.out _ _ _ _))
  rw [← HY1.out, ← HH1.out] at HLY
  clear HF1 HG1 HX1 HH1 HY1 HG0 HGA HGB
  obtain ⟨a, b, c, hA⟩ : ∃ a b c, fltV F u true = #[.int .i64 a, .int .u64 b, .bool c] := by unfold fltV fltA; split <;> exact ⟨_, _, _, rfl⟩
  obtain ⟨a', b', c', hA'⟩ : ∃ a b c, fltV G u false = #[.int .i64 a, .int .u64 b, .bool c] := by unfold fltV fltA; split <;> exact ⟨_, _, _, rfl⟩
  obtain ⟨a2, b2, c2, hA2⟩ : ∃ a b c, fltV Hk u false = #[.int .i64 a, .int .u64 b, .bool c] := by unfold fltV fltA; split <;> exact ⟨_, _, _, rfl⟩
  have HA := hide hA
  have HA' := hide hA'
  have HA2 := hide hA2
  clear hA hA' hA2
  go_wp2_with fail
  refine (HST.out _ HS.out).mono ?_
  rintro e w2 ⟨rfl, hC, hM, hm⟩
  rw [HA.out]
  replace HB := hide (below_mod HB.out (Nat.le_of_eq HB0.out.symm) hm HS.out.geB)
  replace HS := hide (HS.out.setBoth hC hM hm)
  have hS0 := HS.out.top
  have hal := (Below.refl w2.heap.size w2).alloc (Nat.le_refl _) (.cells #[.int .i64 a, .int .u64 b, .bool c] 61)
  have hkA := Blk.new w2 61 #[.int .i64 a, .int .u64 b, .bool c]
  replace HB := hide (HB.out.trans (hal.mono (Nat.le_trans (Nat.le_of_eq HB0.out.symm) HB.out.size)))
  replace HS := hide (HS.out.on hal)
  go_upto_region 6 with fail
  generalize w2.alloc (.cells #[.int .i64 a, .int .u64 b, .bool c] 61) = w3 at hkA HB HS ⊢
  clear hal hC hM hm
  generalize w2.heap.size = PA at *
  go_wp2_with fail
  refine (HLX.out _ HS.out).mono ?_
  rintro e w4 ⟨rfl, hC, hm⟩
  rw [HA'.out]
  replace HB := hide (below_mod HB.out (Nat.le_of_eq HB0.out.symm) hm (fun k hk => (HS.out.s1 k hk).1))
  replace hkA := hkA.mod hm (HS.out.offC hS0)
  have hl := hkA.lt
  replace HS := hide (HS.out.setCores hC hm)
  have hS1 := HS.out.top
  have hal := (Below.refl w4.heap.size w4).alloc (Nat.le_refl _) (.cells #[.int .i64 a', .int .u64 b', .bool c'] 61)
  have hkB := Blk.new w4 61 #[.int .i64 a', .int .u64 b', .bool c']
  replace hkA := hkA.below hal hl
  replace HB := hide (HB.out.trans (hal.mono (Nat.le_trans (Nat.le_of_eq HB0.out.symm) HB.out.size)))
  replace HS := hide (HS.out.on hal)
  go_upto_region 7 with fail
  generalize w4.alloc (.cells #[.int .i64 a', .int .u64 b', .bool c'] 61) = w5 at hkA hkB HB HS ⊢
  clear hal hC hm hl
  generalize w4.heap.size = PB at *
  go_wp2_with fail
  refine (HLY.out _ HS.out).mono ?_
  rintro e w6 ⟨rfl, hC, hm⟩
  rw [HA2.out]
  replace HB := hide (below_mod HB.out (Nat.le_of_eq HB0.out.symm) hm (fun k hk => (HS.out.s1 k hk).1))
  replace hkA := hkA.mod hm (HS.out.offC hS0)
  replace hkB := hkB.mod hm (HS.out.offC hS1)
  have hl := hkA.lt
  have hl2 := hkB.lt
  have hal := (Below.refl w6.heap.size w6).alloc (Nat.le_refl _) (.cells #[.int .i64 a2, .int .u64 b2, .bool c2] 61)
  have hkC := Blk.new w6 61 #[.int .i64 a2, .int .u64 b2, .bool c2]
  replace hkA := hkA.below hal hl
  replace hkB := hkB.below hal hl2
  replace HB := hide (HB.out.trans (hal.mono (Nat.le_trans (Nat.le_of_eq HB0.out.symm) HB.out.size)))
  go_upto_region 8 with fail
  generalize w6.alloc (.cells #[.int .i64 a2, .int .u64 b2, .bool c2] 61) = w7 at hkA hkB hkC HB ⊢
  clear hal hC hm hl hl2 HS hS0 hS1 HLX HLY HST
  generalize w6.heap.size = PC at *
  go_wp2_with fail
  refine (HLP.out _).mono ?_
  rintro e w' ⟨rfl, rfl⟩
  obtain ⟨a0, a1, a2'⟩ := hkA.c3
  obtain ⟨b0, b1, b2'⟩ := hkB.c3
  obtain ⟨c0, c1, c2'⟩ := hkC.c3
  clear hkA hkB hkC
  have hfa := fun W => flt_eqA a b c 0 0 false W
  have hfb := fun W => flt_eqA a' b' c' 0 0 false W
  have hfc := fun W => flt_eqA a2 b2 c2 0 0 false W
  rcases HWY.out with ⟨hb, rfl, rfl, rfl, rfl, rfl⟩ | ⟨hb, hne⟩
  · have h1 := HA.out
    have h2 := HA'.out
    have h3 := HA2.out
    rw [fltV_zero] at h1 h2 h3
    simp only [Array.mk.injEq, List.cons.injEq, Value.int.injEq, Value.bool.injEq, true_and, and_true] at h1 h2 h3
    obtain ⟨rfl, rfl, rfl⟩ := h1
    obtain ⟨rfl, rfl, rfl⟩ := h2
    obtain ⟨rfl, rfl, rfl⟩ := h3
    simp only [BEq.rfl, Bool.and_self] at hfa hfb hfc
    have hpp : P = 2 ∨ P = 4 := by
      unfold both at hb
      simp only [Bool.or_eq_true, beq_iff_eq] at hb
      omega
    rcases hpp with rfl | rfl
    all_goals
      go_wp2_with fail
      refine (awake8 _).mono ?_
      rintro e w8 ⟨rfl, hbb⟩
      replace HB := hide (HB.out.trans (hbb.mono (Nat.le_trans (Nat.le_of_eq HB0.out.symm) HB.out.size)))
      go_wp2_with fail
      go_ret
      exact ⟨rfl, by rw [HB0.out]; exact HB.out⟩
  · have hpp : ((P : Int) == 2) = false ∧ ((P : Int) == 4) = false := by
      unfold both at hb
      simp only [Bool.or_eq_false_iff, beq_eq_false_iff_ne] at hb ⊢
      omega
    obtain ⟨n2, n4⟩ := hpp
    have hnn : (a == 0 && (b == 0 && c == false)) = false ∨ ((a == 0 && (b == 0 && c == false)) = true ∧ (a' == 0 && (b' == 0 && c' == false)) = false) := by
      have h1 := HA.out
      have h2 := HA'.out
      by_cases hF : F = 0
      · have hG : G ≠ 0 := hne.resolve_left (fun h => h hF)
        refine .inr ⟨?_, ?_⟩
        · rw [hF, fltV_zero] at h1
          simp only [Array.mk.injEq, List.cons.injEq, Value.int.injEq, Value.bool.injEq, true_and, and_true] at h1
          obtain ⟨rfl, rfl, rfl⟩ := h1
          rfl
        · rw [fltV_ne hG] at h2
          simp only [Array.mk.injEq, List.cons.injEq, Value.int.injEq, Value.bool.injEq, true_and, and_true] at h2
          obtain ⟨rfl, rfl, rfl⟩ := h2
          simp [hG]
      · refine .inl ?_
        rw [fltV_ne hF] at h1
        simp only [Array.mk.injEq, List.cons.injEq, Value.int.injEq, Value.bool.injEq, true_and, and_true] at h1
        obtain ⟨rfl, rfl, rfl⟩ := h1
        simp
    have HN := hide hnn
    clear hnn
    have HNE := hide hne
    clear hne
    rcases HN.out with hx | ⟨hx, hy⟩
    · rw [hx] at hfa
      go_wp2_with fail
      refine (awake8 _).mono ?_
      rintro e w8 ⟨rfl, hbb⟩
      replace HB := hide (HB.out.trans (hbb.mono (Nat.le_trans (Nat.le_of_eq HB0.out.symm) HB.out.size)))
      go_wp2_with fail
      go_ret
      exact ⟨rfl, by rw [HB0.out]; exact HB.out⟩
    · rw [hx] at hfa
      rw [hy] at hfb
      go_wp2_with fail
      refine (awake8 _).mono ?_
      rintro e w8 ⟨rfl, hbb⟩
      replace HB := hide (HB.out.trans (hbb.mono (Nat.le_trans (Nat.le_of_eq HB0.out.symm) HB.out.size)))
      go_wp2_with fail
      go_ret
      exact ⟨rfl, by rw [HB0.out]; exact HB.out⟩
end Go.Proofs.Ytlfenakabedmfaa
