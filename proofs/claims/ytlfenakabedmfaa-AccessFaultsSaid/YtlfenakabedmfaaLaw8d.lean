/- Chapter 8: AccessFaults. -/
import Derived.Test.YtlfenakabedmfaaLaw8
import Derived.Test.YtlfenakabedmfaaPhys3
namespace Go.Proofs.Ytlfenakabedmfaa
open Go.RowKit Go.Shelf
/-- How many of the first t words differ. -/
def diffN (m m' : Nat → Int) (t : Nat) : Nat := ((List.range t).filter fun j => m j != m' j).length
theorem diffN_yes {m m' : Nat → Int} {t : Nat} (h : (m t != m' t) = true) : diffN m m' (t + 1) = diffN m m' t + 1 := by simp [diffN, List.range_succ, List.filter_append, h]
theorem diffN_no {m m' : Nat → Int} {t : Nat} (h : (m t != m' t) = false) : diffN m m' (t + 1) = diffN m m' t := by simp [diffN, List.range_succ, List.filter_append, h]
theorem diffN_le (m m' : Nat → Int) (t : Nat) : diffN m m' t ≤ t := by
  have := List.length_filter_le (fun j => m j != m' j) (List.range t)
  simpa [diffN] using this
theorem diffN_same (m : Nat → Int) (t : Nat) : diffN m m t = 0 := by simp [diffN]
theorem diffN_one {m m' : Nat → Int} {x : Nat} (h : ∀ j, j ≠ x → m j = m' j) : ∀ t, diffN m m' t ≤ 1 ∧ (t ≤ x → diffN m m' t = 0)
  | 0 => ⟨Nat.zero_le _, fun _ => rfl⟩
  | t + 1 => by
    obtain ⟨h1, h2⟩ := diffN_one h t
    by_cases e : t = x
    · refine ⟨?_, fun h => by omega⟩
      have := h2 (by omega)
      cases hd : (m t != m' t) with
      | true => rw [diffN_yes hd]; omega
      | false => rw [diffN_no hd]; omega
    · rw [diffN_no (by simp [h t e])]
      exact ⟨h1, fun h => h2 (by omega)⟩
theorem accF_ok {n : Nat} {K : Nat → Core} {N : Nat} {m : Nat → Int} {k va : Int} {wr : Bool} (h : accF n K N m k va wr = 0) : va < 32768 ∧ va % 8 = 0 := by
  by_cases hb : accBad n K k va = 0
  · unfold accBad at hb
    split at hb
    · omega
    split at hb
    · omega
    omega
  · have h1 : (accV n K N m k va wr).2 = accBad n K k va := by unfold accV; rw [if_pos hb]
    unfold accF at h
    rw [h1, if_pos hb] at h
    exact (hb h).elim
theorem accM_bad {n : Nat} {K : Nat → Core} {N : Nat} {m : Nat → Int} {k va v : Int} (h : accF n K N m k va true ≠ 0) : accM n K N m k va v = m := by
  unfold accF at h
  unfold accM
  by_cases h1 : (accV n K N m k va true).2 = 0
  · rw [if_pos h1]
    unfold storeV
    rw [if_neg]
    intro h2
    rw [if_neg (fun hh => hh h1), if_pos h2] at h
    exact h rfl
  · rw [if_neg h1]
theorem accM_one (n : Nat) (K : Nat → Core) (N : Nat) (m : Nat → Int) (k va v : Int) (t : Nat) : diffN m (accM n K N m k va v) t ≤ 1 := by
  unfold accM storeV
  split
  · split
    · exact (diffN_one (x := ((accV n K N m k va true).1 / 8).toNat) (fun j hj => (if_neg hj).symm) t).1
    · rw [diffN_same]; exact Nat.zero_le _
  · rw [diffN_same]; exact Nat.zero_le _
set_option maxRecDepth 100000 in
set_option maxHeartbeats 4000000 in
theorem faults_true (k va v : Int) (hva : 0 ≤ va) (hv : 0 ≤ v ∧ v < 18446744073709551616) (w : World) : Calls Try.prog 12 #[.int .i64 k, .int .u64 va, .int .u64 v, .bool true] w fun e w' => e = .returned (.bool true) ∧ Below w.heap.size w w' := by
  have HV := hide hv
  clear hv
  go_enter Try.func12, Try.ntmps12
  go_wp2_with fail
  refine (ready_any _).mono ?_
  rintro e w1 ⟨H, gb, cap, tl, gf, RH, rgb, rcap, rtl, rf, rfl, hS, hB⟩
  generalize hB0 : w.heap.size = B at *
  have HB0 := hide hB0
  have HS := hide hS
  have HB := hide hB
  clear hB0 hS hB
  go_wp2_with fail
  refine (copy_in (gf + 1) gf 8 8 _ _ HS.out.mem).mono ?_
  rintro e w2 ⟨dg, dgf, dcp, rfl, hD, hd1, hd2, hb⟩
  have HD := hide hD
  have hS1 := HS.out.top
  replace HB := hide (HB.out.trans (hb.mono (Nat.le_trans (Nat.le_of_eq HB0.out.symm) HB.out.size)))
  replace HS := hide (HS.out.on hb)
  have hdg : rf + 1 < dg := by omega
  have hdf : rf + 1 < dgf := by omega
  clear hD hb hd1 hd2 hS1
  go_upto_region 6 with fail
  have hS0 := HS.out.top
  have hal := (Below.refl w2.heap.size w2).alloc (Nat.le_refl _) (.cells #[.int .i64 0, .int .u64 0, .bool false] 61)
  have hk := Blk.new w2 61 #[.int .i64 0, .int .u64 0, .bool false]
  have hPd : dg < w2.heap.size ∧ dgf < w2.heap.size := ⟨HD.out.hd.lt, HD.out.ltf⟩
  have hBP : B ≤ w2.heap.size := Nat.le_trans (Nat.le_of_eq HB0.out.symm) HB.out.size
  replace HD := hide (HD.out.on hal)
  replace HB := hide (HB.out.trans (hal.mono (Nat.le_trans (Nat.le_of_eq HB0.out.symm) HB.out.size)))
  replace HS := hide (HS.out.on hal)
  generalize w2.alloc (.cells #[.int .i64 0, .int .u64 0, .bool false] 61) = w3 at hk HB HS HD ⊢
  clear hal
  generalize w2.heap.size = P at *
  generalize hm0 : readyM 9 = m0 at *
  clear hm0
  have HG0 := hide readyK_good
  generalize readyK = K0 at *
  have HOK := hide (fun (h : accF 2 K0 8 m0 k va true = 0) => accF_ok h)
  have HMB := hide (fun (h : accF 2 K0 8 m0 k va true ≠ 0) => accM_bad (v := v) h)
  have HMO := hide (accM_one 2 K0 8 m0 k va v 64)
  have HST := hide (fun W (h : Sides W B H gb cap tl gf RH rgb rcap rtl rf K0 K0 m0 m0) => astore_any H gb cap 2 tl K0 (gf + 1) gf 8 8 m0 k va v W h.cores h.mem HG0.out.ok hva HV.out (frOk_good HG0.out _ _ _ _))
  generalize accF 2 K0 8 m0 k va true = F at HOK HMB HST
  generalize accM 2 K0 8 m0 k va v = m1 at HMB HMO HST
  obtain ⟨a, b, c, hA⟩ : ∃ a b c, fltV F va true = #[.int .i64 a, .int .u64 b, .bool c] := by unfold fltV fltA; split <;> exact ⟨_, _, _, rfl⟩
  have HA := hide hA
  clear hA
  go_wp2_with fail
  refine (HST.out _ HS.out).mono ?_
  rintro e w4 ⟨rfl, hC, hM, hm⟩
  rw [HA.out]
  replace hk := hk.mod hm (HS.out.offB hS0)
  replace HD := hide (HD.out.modT hm (HS.out.offB hdg) (HS.out.offB hdf))
  replace HB := hide (below_mod HB.out (Nat.le_of_eq HB0.out.symm) hm HS.out.geB)
  replace HS := hide (HS.out.setBoth hC hM hm)
  have HMO1 := hide (show diffN m0 m1 64 = 0 ∨ diffN m0 m1 64 = 1 by have := HMO.out; omega)
  have HM1 := hide (fun h : F ≠ 0 => show diffN m0 m1 64 = 0 by rw [HMB.out h]; exact diffN_same _ _)
  clear HMB HMO HST
  obtain ⟨e0, e1, e2⟩ := hk.c3
  obtain ⟨f0, f1, f2⟩ := hk.f3
  have hs3 := hk.set3 (.int .i64 a) (.int .u64 b) (.bool c)
  have hmm := mod_set3 (Mod.refl (· = P) w4) (.inl rfl) (.int .i64 a) (.int .u64 b) (.bool c)
  have hap := HS.out.apart
  have HM := hide (HS.out.mem.modT hmm (fun e => by have e' : gf + 1 = P := e; omega) (fun e => by have e' : gf = P := e; omega))
  replace HD := hide (HD.out.modT hmm (fun e => by have e' : dg = P := e; omega) (fun e => by have e' : dgf = P := e; omega))
  replace HB := hide (below_mod HB.out (Nat.le_of_eq HB0.out.symm) hmm (fun k hk => by have hk' : k = P := hk; omega))
  go_upto_region 9 with fail
  clear e0 e1 e2 f0 f1 f2 hmm hk HS hC hM hm hap
  generalize ((w4.setCell ⟨P, 0, none⟩ (.int .i64 a)).setCell ⟨P, 1, none⟩ (.int .u64 b)).setCell ⟨P, 2, none⟩ (.bool c) = w5 at hs3 HM HD HB ⊢
  clear HG0
  go_wp2_with fail
  go_loopw [15, 16] (fun c i wr => ∃ j : Nat, j ≤ 64 ∧ c = .int .i64 (diffN m0 m1 j : Nat) ∧ i = .int .u64 (8 * (j : Int)) ∧ wr = w5) (fun _ i _ => 512 - (intOf i).toNat)
  case atStart => exact ⟨0, Nat.zero_le _, rfl, rfl, rfl⟩
  case round =>
    obtain ⟨j, hj, rfl, rfl, rfl⟩ := hrel
    by_cases hlt : j < 64
    · have j0 : 0 ≤ 8 * (j : Int) := by omega
      have j1 : 8 * (j : Int) < 512 := by omega
      have hd := diffN_le m0 m1 j
      have HY := hide (fun h => diffN_yes (m := m0) (m' := m1) (t := j) h)
      have HN := hide (fun h => diffN_no (m := m0) (m' := m1) (t := j) h)
      have HLA := hide (fun W hW => load_in dg dgf 8 dcp m0 j W hW hlt)
      have HLB := hide (fun W hW => load_in (gf + 1) gf 8 8 m1 j W hW hlt)
      generalize diffN m0 m1 j = dn at *
      have hwrap : IntKind.i64.wrap ((dn : Int) + 1) = ((dn + 1 : Nat) : Int) := by rw [IntWalk.i64_in _ (by omega)]; push_cast; rfl
      generalize m0 j = x at HY HN HLA
      generalize m1 j = y at HY HN HLB
      go_wp2_with fail
      refine (HLA.out _ HD.out).mono ?_
      rintro e w' ⟨rfl, rfl⟩
      go_wp2_with fail
      refine (HLB.out _ HM.out).mono ?_
      rintro e w' ⟨rfl, rfl⟩
      cases hxy : (x != y)
      · go_wp2_with fail
        go_roundw
        case rel => exact ⟨j + 1, by omega, by rw [HN.out hxy], by push_cast; rw [Int.mul_add]; rfl, trivial⟩
        case measure => simp [intOf]; omega
      · go_wp2_with fail
        go_roundw
        case rel => exact ⟨j + 1, by omega, by rw [HY.out hxy]; simp, by push_cast; rw [Int.mul_add]; rfl, trivial⟩
        case measure => simp [intOf]; omega
    · obtain rfl : j = 64 := by omega
      clear hj hlt
      have HD64 := hide (diffN_le m0 m1 64)
      generalize diffN m0 m1 64 = dn at *
      obtain ⟨c0, c1, c2⟩ := hs3.c3
      by_cases hF : F = 0
      · obtain ⟨v0, v1⟩ := HOK.out hF
        have hmod : va.tmod 8 = 0 := by rw [Int.tmod_eq_emod_of_nonneg hva]; exact v1
        have h1 := HA.out
        rw [hF, fltV_zero] at h1
        simp only [Array.mk.injEq, List.cons.injEq, Value.int.injEq, Value.bool.injEq, true_and, and_true] at h1
        obtain ⟨rfl, rfl, rfl⟩ := h1
        have hfa := fun W => flt_eqA 0 0 false 0 0 false W
        simp only [BEq.rfl, Bool.and_self] at hfa
        clear HM1 HOK
        rcases HMO1.out with hd0 | hd0
        all_goals
          subst hd0
          clear HMO1
          go_wp2_with fail
          refine (awake8 _).mono ?_
          rintro e w8 ⟨rfl, hbb⟩
          replace HB := hide (HB.out.trans (hbb.mono (Nat.le_trans (Nat.le_of_eq HB0.out.symm) HB.out.size)))
          go_wp2_with fail
          go_ret
          exact ⟨rfl, by rw [HB0.out]; exact HB.out⟩
      · have h1 := HA.out
        rw [fltV_ne hF] at h1
        simp only [Array.mk.injEq, List.cons.injEq, Value.int.injEq, Value.bool.injEq, true_and, and_true] at h1
        obtain ⟨rfl, rfl, rfl⟩ := h1
        have hd0 := HM1.out hF
        subst hd0
        have hFb : (F != 0) = true := by simpa using hF
        clear HOK HM1
        go_wp2_with fail
        refine (awake8 _).mono ?_
        rintro e w8 ⟨rfl, hbb⟩
        replace HB := hide (HB.out.trans (hbb.mono (Nat.le_trans (Nat.le_of_eq HB0.out.symm) HB.out.size)))
        go_wp2_with fail
        go_ret
        exact ⟨rfl, by rw [HB0.out]; exact HB.out⟩
set_option maxRecDepth 100000 in
set_option maxHeartbeats 4000000 in
theorem faults_false (k va v : Int) (hva : 0 ≤ va) (hv : 0 ≤ v ∧ v < 18446744073709551616) (w : World) : Calls Try.prog 12 #[.int .i64 k, .int .u64 va, .int .u64 v, .bool false] w fun e w' => e = .returned (.bool true) ∧ Below w.heap.size w w' := by
  have HV := hide hv
  clear hv
  go_enter Try.func12, Try.ntmps12
  go_wp2_with fail
  refine (ready_any _).mono ?_
  rintro e w1 ⟨H, gb, cap, tl, gf, RH, rgb, rcap, rtl, rf, rfl, hS, hB⟩
  generalize hB0 : w.heap.size = B at *
  have HB0 := hide hB0
  have HS := hide hS
  have HB := hide hB
  clear hB0 hS hB
  go_wp2_with fail
  refine (copy_in (gf + 1) gf 8 8 _ _ HS.out.mem).mono ?_
  rintro e w2 ⟨dg, dgf, dcp, rfl, hD, hd1, hd2, hb⟩
  have HD := hide hD
  have hS1 := HS.out.top
  replace HB := hide (HB.out.trans (hb.mono (Nat.le_trans (Nat.le_of_eq HB0.out.symm) HB.out.size)))
  replace HS := hide (HS.out.on hb)
  have hdg : rf + 1 < dg := by omega
  have hdf : rf + 1 < dgf := by omega
  clear hD hb hd1 hd2 hS1
  go_upto_region 6 with fail
  have hS0 := HS.out.top
  have hal := (Below.refl w2.heap.size w2).alloc (Nat.le_refl _) (.cells #[.int .i64 0, .int .u64 0, .bool false] 61)
  have hk := Blk.new w2 61 #[.int .i64 0, .int .u64 0, .bool false]
  have hPd : dg < w2.heap.size ∧ dgf < w2.heap.size := ⟨HD.out.hd.lt, HD.out.ltf⟩
  have hBP : B ≤ w2.heap.size := Nat.le_trans (Nat.le_of_eq HB0.out.symm) HB.out.size
  replace HD := hide (HD.out.on hal)
  replace HB := hide (HB.out.trans (hal.mono (Nat.le_trans (Nat.le_of_eq HB0.out.symm) HB.out.size)))
  replace HS := hide (HS.out.on hal)
  generalize w2.alloc (.cells #[.int .i64 0, .int .u64 0, .bool false] 61) = w3 at hk HB HS HD ⊢
  clear hal
  generalize w2.heap.size = P at *
  generalize hm0 : readyM 9 = m0 at *
  clear hm0
  have HG0 := hide readyK_good
  generalize readyK = K0 at *
  have HOK := hide (fun (h : accF 2 K0 8 m0 k va false = 0) => accF_ok h)
  have HST := hide (fun W (h : Sides W B H gb cap tl gf RH rgb rcap rtl rf K0 K0 m0 m0) => aload_any H gb cap 2 tl K0 (gf + 1) gf 8 8 m0 k va W h.cores h.mem HG0.out.ok hva (frOk_good HG0.out _ _ _ _))
  generalize accF 2 K0 8 m0 k va false = F at HOK HST
  generalize accL 2 K0 8 m0 k va = lv at HST
  obtain ⟨a, b, c, hA⟩ : ∃ a b c, fltV F va false = #[.int .i64 a, .int .u64 b, .bool c] := by unfold fltV fltA; split <;> exact ⟨_, _, _, rfl⟩
  have HA := hide hA
  clear hA
  obtain ⟨m1, hm1⟩ : ∃ m1, m1 = m0 := ⟨_, rfl⟩
  go_wp2_with fail
  refine (HST.out _ HS.out).mono ?_
  rintro e w4 ⟨rfl, hC, hm⟩
  rw [HA.out]
  replace hk := hk.mod hm (HS.out.offC hS0)
  replace HD := hide (HD.out.modT hm (HS.out.offC hdg) (HS.out.offC hdf))
  replace HB := hide (below_mod HB.out (Nat.le_of_eq HB0.out.symm) hm (fun k hk => (HS.out.s1 k hk).1))
  replace HS := hide (HS.out.setCores hC hm)
  rw [← hm1] at HS
  have hM := HS.out.mem
  have HMO1 := hide (show diffN m0 m1 64 = 0 by rw [hm1]; exact diffN_same _ _)
  have HM1 := hide (fun _ : F ≠ 0 => HMO1.out)
  clear HST hm1
  obtain ⟨e0, e1, e2⟩ := hk.c3
  obtain ⟨f0, f1, f2⟩ := hk.f3
  have hs3 := hk.set3 (.int .i64 a) (.int .u64 b) (.bool c)
  have hmm := mod_set3 (Mod.refl (· = P) w4) (.inl rfl) (.int .i64 a) (.int .u64 b) (.bool c)
  have hap := HS.out.apart
  have HM := hide (HS.out.mem.modT hmm (fun e => by have e' : gf + 1 = P := e; omega) (fun e => by have e' : gf = P := e; omega))
  replace HD := hide (HD.out.modT hmm (fun e => by have e' : dg = P := e; omega) (fun e => by have e' : dgf = P := e; omega))
  replace HB := hide (below_mod HB.out (Nat.le_of_eq HB0.out.symm) hmm (fun k hk => by have hk' : k = P := hk; omega))
  go_upto_region 9 with fail
  clear e0 e1 e2 f0 f1 f2 hmm hk HS hC hM hm hap
  generalize ((w4.setCell ⟨P, 0, none⟩ (.int .i64 a)).setCell ⟨P, 1, none⟩ (.int .u64 b)).setCell ⟨P, 2, none⟩ (.bool c) = w5 at hs3 HM HD HB ⊢
  clear HG0
  go_wp2_with fail
  go_loopw [15, 16] (fun c i wr => ∃ j : Nat, j ≤ 64 ∧ c = .int .i64 (diffN m0 m1 j : Nat) ∧ i = .int .u64 (8 * (j : Int)) ∧ wr = w5) (fun _ i _ => 512 - (intOf i).toNat)
  case atStart => exact ⟨0, Nat.zero_le _, rfl, rfl, rfl⟩
  case round =>
    obtain ⟨j, hj, rfl, rfl, rfl⟩ := hrel
    by_cases hlt : j < 64
    · have j0 : 0 ≤ 8 * (j : Int) := by omega
      have j1 : 8 * (j : Int) < 512 := by omega
      have hd := diffN_le m0 m1 j
      have HY := hide (fun h => diffN_yes (m := m0) (m' := m1) (t := j) h)
      have HN := hide (fun h => diffN_no (m := m0) (m' := m1) (t := j) h)
      have HLA := hide (fun W hW => load_in dg dgf 8 dcp m0 j W hW hlt)
      have HLB := hide (fun W hW => load_in (gf + 1) gf 8 8 m1 j W hW hlt)
      generalize diffN m0 m1 j = dn at *
      have hwrap : IntKind.i64.wrap ((dn : Int) + 1) = ((dn + 1 : Nat) : Int) := by rw [IntWalk.i64_in _ (by omega)]; push_cast; rfl
      generalize m0 j = x at HY HN HLA
      generalize m1 j = y at HY HN HLB
      go_wp2_with fail
      refine (HLA.out _ HD.out).mono ?_
      rintro e w' ⟨rfl, rfl⟩
      go_wp2_with fail
      refine (HLB.out _ HM.out).mono ?_
      rintro e w' ⟨rfl, rfl⟩
      cases hxy : (x != y)
      · go_wp2_with fail
        go_roundw
        case rel => exact ⟨j + 1, by omega, by rw [HN.out hxy], by push_cast; rw [Int.mul_add]; rfl, trivial⟩
        case measure => simp [intOf]; omega
      · go_wp2_with fail
        go_roundw
        case rel => exact ⟨j + 1, by omega, by rw [HY.out hxy]; simp, by push_cast; rw [Int.mul_add]; rfl, trivial⟩
        case measure => simp [intOf]; omega
    · obtain rfl : j = 64 := by omega
      clear hj hlt
      have HD64 := hide (diffN_le m0 m1 64)
      generalize diffN m0 m1 64 = dn at *
      obtain ⟨c0, c1, c2⟩ := hs3.c3
      by_cases hF : F = 0
      · obtain ⟨v0, v1⟩ := HOK.out hF
        have hmod : va.tmod 8 = 0 := by rw [Int.tmod_eq_emod_of_nonneg hva]; exact v1
        have h1 := HA.out
        rw [hF, fltV_zero] at h1
        simp only [Array.mk.injEq, List.cons.injEq, Value.int.injEq, Value.bool.injEq, true_and, and_true] at h1
        obtain ⟨rfl, rfl, rfl⟩ := h1
        have hfa := fun W => flt_eqA 0 0 false 0 0 false W
        simp only [BEq.rfl, Bool.and_self] at hfa
        clear HM1 HOK
        have hd0 := HMO1.out
        subst hd0
        clear HMO1
        go_wp2_with fail
        refine (awake8 _).mono ?_
        rintro e w8 ⟨rfl, hbb⟩
        replace HB := hide (HB.out.trans (hbb.mono (Nat.le_trans (Nat.le_of_eq HB0.out.symm) HB.out.size)))
        go_wp2_with fail
        go_ret
        exact ⟨rfl, by rw [HB0.out]; exact HB.out⟩
      · have h1 := HA.out
        rw [fltV_ne hF] at h1
        simp only [Array.mk.injEq, List.cons.injEq, Value.int.injEq, Value.bool.injEq, true_and, and_true] at h1
        obtain ⟨rfl, rfl, rfl⟩ := h1
        have hd0 := HM1.out hF
        subst hd0
        have hFb : (F != 0) = true := by simpa using hF
        clear HOK HM1
        go_wp2_with fail
        refine (awake8 _).mono ?_
        rintro e w8 ⟨rfl, hbb⟩
        replace HB := hide (HB.out.trans (hbb.mono (Nat.le_trans (Nat.le_of_eq HB0.out.symm) HB.out.size)))
        go_wp2_with fail
        go_ret
        exact ⟨rfl, by rw [HB0.out]; exact HB.out⟩
theorem law_AccessFaults (k va v : Int) (wr : Bool) (_ : (Lit.int .i64 k).wf = true) (hva : (Lit.int .u64 va).wf = true) (hv : (Lit.int .u64 v).wf = true) (w : World) : Calls Try.prog 12 #[.int .i64 k, .int .u64 va, .int .u64 v, .bool wr] w fun e w' => e = .returned (.bool true) ∧ Below w.heap.size w w' := by
  cases wr
  · exact faults_false k va v (wfu hva).1 (wfu hv) w
  · exact faults_true k va v (wfu hva).1 (wfu hv) w
end Go.Proofs.Ytlfenakabedmfaa
