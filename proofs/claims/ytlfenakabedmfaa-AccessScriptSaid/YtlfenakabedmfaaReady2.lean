/- Chapter 8: the walk of `ready`. -/
import Derived.Test.YtlfenakabedmfaaReady
namespace Go.Proofs.Ytlfenakabedmfaa
open Go.RowKit Go.Shelf
def lays : Array Value := #[.int .u64 0, .int .u64 257, .int .u64 64, .int .u64 513, .int .u64 72, .int .u64 65536, .int .u64 128, .int .u64 775, .int .u64 136, .int .u64 1035, .int .u64 144, .int .u64 1295, .int .u64 152, .int .u64 1543, .int .u64 160, .int .u64 1807, .int .u64 168, .int .u64 16135]
theorem lays_at (i : Nat) (h : i < 18) : lays[i]? = some (.int .u64 (layV i)) := by
  have h2 : i = 0 ∨ i = 1 ∨ i = 2 ∨ i = 3 ∨ i = 4 ∨ i = 5 ∨ i = 6 ∨ i = 7 ∨ i = 8 ∨ i = 9 ∨ i = 10 ∨ i = 11 ∨ i = 12 ∨ i = 13 ∨ i = 14 ∨ i = 15 ∨ i = 16 ∨ i = 17 := by omega
  rcases h2 with rfl | rfl | rfl | rfl | rfl | rfl | rfl | rfl | rfl | rfl | rfl | rfl | rfl | rfl | rfl | rfl | rfl | rfl
  all_goals rfl
/-- The registers that it sets. -/
def readyK : Nat → Core := upd (upd (fun _ => core0) 0 ⟨0, 1, core0.c⟩) 1 ⟨0, 2, core0.c⟩
set_option maxRecDepth 100000 in
set_option maxHeartbeats 4000000 in
theorem ready_any (w : World) : Calls Try.prog 26 #[] w fun e w' => ∃ H gb cap tl gf RH rgb rcap rtl rf,
    e = .returned (.tuple #[.pointer (some ⟨H, 0, none⟩), .pointer (some ⟨gf + 1, 0, none⟩), .pointer (some ⟨RH, 0, none⟩), .pointer (some ⟨rf + 1, 0, none⟩)]) ∧
    Sides w' w.heap.size H gb cap tl gf RH rgb rcap rtl rf readyK readyK (readyM 9) (readyM 9) ∧ Below w.heap.size w w' := by
  go_enter Try.func26, Try.ntmps26
  go_wp2_with fail
  refine (cnew_in 2 _ (by decide) (by decide)).mono ?_
  rintro e w1 ⟨gb, cap, tl, rfl, hC, hS, hB⟩
  generalize hH : w.heap.size = H at *
  have HG := hide hH
  have HB := hide hB
  have HC := hide hC
  have HS := hide hS
  have hz1 := hB.size
  rw [hH] at hz1
  have HL := hide (fun k hk => hC.lt (k := k) hk)
  clear hH hB hC hS
  go_wp2_with fail
  refine (new_in 8 _ (by decide) (by decide)).mono ?_
  rintro e w2 ⟨rfl, hM, hb⟩
  generalize hgf : w1.heap.size = gf at *
  replace HC := hide (HC.out.on (hgf ▸ hb))
  replace HB := hide (HB.out.trans (hb.mono hz1))
  have HM := hide hM
  have hz2 := hM.hd.lt
  clear hb hM hgf
  go_wp2_with fail
  refine (rcnew_in 2 _ (by decide) (by decide)).mono ?_
  rintro e w3 ⟨rgb, rcap, rtl, rfl, hC, hS, hB⟩
  have HRC := hide hC
  have HRS := hide hS
  have HRL := hide (fun k hk => hC.lt (k := k) hk)
  replace HC := hide (HC.out.on hB)
  have hmd := HM.out.hd.lt
  have hmf := HM.out.ltf
  replace HM := hide (HM.out.below hB hmd hmf)
  replace HB := hide (HB.out.trans (hB.mono (by omega)))
  have hz3 := hB.size
  clear hB hC hS hmd hmf
  generalize w2.heap.size = RH at *
  go_wp2_with fail
  refine (rnew_in 8 _ (by decide) (by decide)).mono ?_
  rintro e w4 ⟨rfl, hR, hb⟩
  have hmd := HM.out.hd.lt
  have hmf := HM.out.ltf
  have HSD := hide (show Sides w4 H H gb cap tl gf RH rgb rcap rtl w3.heap.size (fun _ => core0) (fun _ => core0) (readyM 0) (readyM 0) from
    ⟨HC.out.on hb, HM.out.below hb hmd hmf, HRC.out.on hb, hR, fun k hk => ⟨HS.out k hk, HL.out k hk⟩, by omega, fun k hk => ⟨HRS.out k hk, HRL.out k hk⟩, hz1⟩)
  replace HB := hide (HB.out.trans (hb.mono (by omega)))
  clear hb hR HC HM HRC HS HL HRS HRL hmd hmf
  generalize w3.heap.size = rf at *
  go_wp2_with fail
  have hba := (Below.refl _ w4).alloc (Nat.le_refl _) (.cells lays 32)
  have hk := Blk.new w4 32 lays
  have hSD := HSD.out.on hba
  have hHP : rf + 1 < w4.heap.size := HSD.out.ref.hd.lt
  replace HB := hide (HB.out.trans (hba.mono (Nat.le_trans (Nat.le_of_eq HG.out.symm) HB.out.size)))
  have hLA := lays_at
  unfold lays at hba hk hSD HB hLA
  generalize w4.alloc (.cells #[.int .u64 0, .int .u64 257, .int .u64 64, .int .u64 513, .int .u64 72, .int .u64 65536, .int .u64 128, .int .u64 775, .int .u64 136, .int .u64 1035, .int .u64 144, .int .u64 1295, .int .u64 152, .int .u64 1543, .int .u64 160, .int .u64 1807, .int .u64 168, .int .u64 16135] 32) = w5 at hk hSD HB ⊢
  generalize w4.heap.size = P at hk hHP ⊢
  have HSD2 := hide hSD
  have HK := hide hk
  have HLA := hide hLA
  clear hba hk hSD HSD hLA
  go_loopw [13] (fun i wr => ∃ j t : Nat, j = 2 * t ∧ t ≤ 9 ∧ i = .int .i64 j ∧ Sides wr H H gb cap tl gf RH rgb rcap rtl rf (fun _ => core0) (fun _ => core0) (readyM t) (readyM t) ∧ Blk wr P 32 #[.int .u64 0, .int .u64 257, .int .u64 64, .int .u64 513, .int .u64 72, .int .u64 65536, .int .u64 128, .int .u64 775, .int .u64 136, .int .u64 1035, .int .u64 144, .int .u64 1295, .int .u64 152, .int .u64 1543, .int .u64 160, .int .u64 1807, .int .u64 168, .int .u64 16135] ∧ Below H w wr) (fun i _ => 18 - (intOf i).toNat)
  case atStart => exact ⟨0, 0, rfl, by omega, rfl, HSD2.out, HK.out, HB.out⟩
  case round =>
    obtain ⟨j, t, hj, ht, rfl, hS, hK, hB⟩ := hrel
    have HS := hide hS
    have HK2 := hide hK
    have HB2 := hide hB
    clear hS hK hB HSD2 HK HB
    by_cases hlt : j < 18
    · have j0 : (0 : Int) ≤ (j : Int) := by omega
      have j1 : (j : Int) < 18 := by omega
      have j2 : (j : Int) + 1 < 18 := by omega
      have j3 : (0 : Int) ≤ (j : Int) + 1 := by omega
      have jw : IntKind.i64.wrap ((j : Int) + 1) = (j : Int) + 1 := by rw [IntKind.wrap_i64]; omega
      have jt : ((j : Int) + 1).toNat = j + 1 := by omega
      have x0 := (HK2.out.cell j).trans (HLA.out j hlt)
      have x1 := (HK2.out.cell (j + 1)).trans (HLA.out (j + 1) (by omega))
      have v0 := layV_bd ⟨j, hlt⟩
      have v1 := layV_bd ⟨j + 1, by omega⟩
      dsimp only at v0 v1
      have HJ := hide hj
      generalize ha : layV j = a at x0 v0
      generalize hb : layV (j + 1) = b at x1 v1
      have HNX := hide (show storeV 8 (readyM t) a b = readyM (t + 1) by rw [← ha, ← hb, hj]; rfl)
      have HV0 := hide v0
      have HV1 := hide v1
      clear v0 v1 hj ha hb
      obtain ⟨wq, rfl⟩ : ∃ wq : World, wq = wr := ⟨_, rfl⟩
      go_upto_region 11 with fail
      have HMd := hide (show MemAt wq.drew (gf + 1) gf 8 8 (readyM t) from HS.out.mem.same rfl rfl)
      have HST := hide (fun w hM => pstore_any (gf + 1) gf 8 8 (readyM t) a b w hM HV0.out.1 HV1.out)
      have hPg : P ≠ gf := by have := HS.out.apart; omega
      have HKR := hide (fun (W : World) (hm : Mod (· = gf) wq W) => (show W.cell? ⟨P, j, none⟩ = some (.int .u64 a) ∧ W.cell? ⟨P, j + 1, none⟩ = some (.int .u64 b) ∧ Mod (· = gf) wq W from ⟨(hm.cell hPg HK2.out.lt).trans x0, (hm.cell hPg HK2.out.lt).trans x1, hm⟩))
      go_region_held3 (fun w' => w'.cell? ⟨P, j, none⟩ = some (.int .u64 a) ∧ w'.cell? ⟨P, j + 1, none⟩ = some (.int .u64 b) ∧ Mod (· = gf) wq w') (first | (with_reducible assumption) | (with_reducible exact HKR.out _ (Mod.refl _ wq).drew)) ((go_at_call 16; refine (HST.out _ HMd.out).mono ?_; rintro e w6 ⟨rfl, hc6, hm6⟩; have hS6 := HKR.out _ (Mod.of_drew hm6)))
      have hm7 := Mod.of_drew hm6
      have HS3 := hide (HS.out.setMem hc6 hm7)
      have HB3 := hide (below_mod HB2.out (Nat.le_of_eq HG.out.symm) hm7 (fun k hk => by have hk' : k = gf := hk; omega))
      have HK3 := hide (HK2.out.mod hm7 hPg)
      have x2 := (hm7.cell hPg HK2.out.lt).trans x0
      have x3 := (hm7.cell hPg HK2.out.lt).trans x1
      clear hc6 hm6 hm7 hS6 HS HB2 HK2 HKR HST HMd x0 x1
      rename_i hHeld
      clear hHeld
      go_upto_region 12 with fail
      have HMe := hide (show RefAt w6.drew (rf + 1) rf 8 64 (readyM t) from HS3.out.ref.same rfl rfl)
      have HST := hide (fun w hM => rstore_any (rf + 1) rf 8 64 (readyM t) a b w hM HV0.out.1 HV0.out.2 HV1.out)
      have hPr : P ≠ rf := by omega
      have HKR := hide (fun (W : World) (hm : Mod (· = rf) w6 W) => (show W.cell? ⟨P, j, none⟩ = some (.int .u64 a) ∧ W.cell? ⟨P, j + 1, none⟩ = some (.int .u64 b) ∧ Mod (· = rf) w6 W from ⟨(hm.cell hPr HK3.out.lt).trans x2, (hm.cell hPr HK3.out.lt).trans x3, hm⟩))
      go_region_held3 (fun w' => w'.cell? ⟨P, j, none⟩ = some (.int .u64 a) ∧ w'.cell? ⟨P, j + 1, none⟩ = some (.int .u64 b) ∧ Mod (· = rf) w6 w') (first | (with_reducible assumption) | (with_reducible exact HKR.out _ (Mod.refl _ w6).drew)) ((go_at_call 33; refine (HST.out _ HMe.out).mono ?_; rintro e w7 ⟨rfl, hc7, hn7⟩; have hS7 := HKR.out _ (Mod.of_drew hn7)))
      have hm8 := Mod.of_drew hn7
      have HS4 := hide (HS3.out.setRef hc7 hm8)
      have HB4 := hide (below_mod HB3.out (Nat.le_of_eq HG.out.symm) hm8 (fun k hk => by have hk' : k = rf := hk; omega))
      have HK4 := hide (HK3.out.mod hm8 hPr)
      rw [HNX.out] at HS4
      clear hc7 hn7 hm8 hS7 HS3 HB3 HK3 HKR HST HMe x2 x3
      rename_i hHeld
      clear hHeld
      go_wp2
      go_roundw
      case rel => exact ⟨j + 2, t + 1, by have := HJ.out; omega, by have := HJ.out; omega, by simp, HS4.out, HK4.out, HB4.out⟩
      case measure => simp [intOf]; omega
    · have hjf : decide ((j : Int) < 18) = false := decide_eq_false (by omega)
      obtain rfl : t = 9 := by omega
      clear hj ht hlt
      go_wp2_with fail
      refine (cset_yes H gb cap 2 tl _ 0 0 1 _ HS.out.cores (by decide) (.inr ⟨by decide, by decide, by decide⟩)).mono ?_
      rintro e wa ⟨rfl, hC, hm⟩
      have HSa := hide (HS.out.setCores hC (Mod.cr hm))
      have HBa := hide (below_mod HB2.out (Nat.le_of_eq HG.out.symm) hm (fun k hk => (HS.out.s1 k (.inr (.inl hk))).1))
      clear hC hm HS HB2 HK2
      go_wp2_with fail
      refine (rcset_yes RH rgb rcap 2 rtl _ 0 0 1 _ HSa.out.rcores (by decide) (.inr ⟨by decide, by decide, by decide⟩)).mono ?_
      rintro e wb ⟨rfl, hC, hm⟩
      have HSb := hide (HSa.out.setRcores hC (Mod.cr hm))
      have HBb := hide (below_mod HBa.out (Nat.le_of_eq HG.out.symm) hm (fun k hk => by have := HSa.out.s3 k (.inr (.inl hk)); omega))
      clear hC hm HSa HBa
      go_wp2_with fail
      refine (cset_yes H gb cap 2 tl _ 1 0 2 _ HSb.out.cores (by decide) (.inr ⟨by decide, by decide, by decide⟩)).mono ?_
      rintro e wc ⟨rfl, hC, hm⟩
      have HSc := hide (HSb.out.setCores hC (Mod.cr hm))
      have HBc := hide (below_mod HBb.out (Nat.le_of_eq HG.out.symm) hm (fun k hk => (HSb.out.s1 k (.inr (.inl hk))).1))
      clear hC hm HSb HBb
      go_wp2_with fail
      refine (rcset_yes RH rgb rcap 2 rtl _ 1 0 2 _ HSc.out.rcores (by decide) (.inr ⟨by decide, by decide, by decide⟩)).mono ?_
      rintro e wd ⟨rfl, hC, hm⟩
      have HSd := hide (HSc.out.setRcores hC (Mod.cr hm))
      have HBd := hide (below_mod HBc.out (Nat.le_of_eq HG.out.symm) hm (fun k hk => by have := HSc.out.s3 k (.inr (.inl hk)); omega))
      clear hC hm HSc HBc
      go_wp2_with fail
      refine bodyPost_ret (results_tmp4 rfl _ _ _) rfl ?_
      exact ⟨H, gb, cap, tl, gf, RH, rgb, rcap, rtl, rf, rfl, by rw [HG.out]; exact HSd.out, HG.out ▸ HBd.out⟩
end Go.Proofs.Ytlfenakabedmfaa
