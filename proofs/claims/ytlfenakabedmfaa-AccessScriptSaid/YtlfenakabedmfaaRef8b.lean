/- Chapter 8's own answer: Load and Store. -/
import Derived.Test.YtlfenakabedmfaaRef8
namespace Go.Proofs.Ytlfenakabedmfaa
open Go.RowKit Go.Shelf
section
variable (g gb cap n : Nat) (tl : Nat → Nat) (K K' : Nat → Core) (gm gf N cp : Nat) (m : Nat → Int) (k va : Int)
theorem RefAt.crR {w w' : World} {g gb cap n : Nat} {tl : Nat → Nat} {K : Nat → Core} {gm gf N cp : Nat} {m : Nat → Int} (hM : RefAt w gm gf N cp m) (hC : RCoresAt w g gb cap n tl K) (hm : Mod (crS g gb n tl) w w') : RefAt w' gm gf N cp m :=
  hM.same (hm.block _ hM.hd.lt fun e => (hC.apartR hM _ e).1 rfl) (hm.block _ hM.ltf fun e => (hC.apartR hM _ e).2 rfl)
set_option maxRecDepth 100000 in
set_option maxHeartbeats 1000000 in
theorem rload8 (at_ kd : Int) (w : World) (hC : RCoresAt w g gb cap n tl K) (hM : RefAt w gm gf N cp m) (j : Nat) (hj : kd = 0 → at_ = j ∧ j < 8 * N)
    (hf : ∀ W, Below w.heap.size w W → Calls Try.prog 66 #[.pointer (some ⟨g, 0, none⟩), .pointer (some ⟨gm, 0, none⟩), .int .i64 k, .int .u64 va, .bool false] W fun e w' => e = .returned (.tuple #[.int .i64 at_, .int .i64 kd]) ∧ RCoresAt w' g gb cap n tl K' ∧ Mod (crS g gb n tl) W w') :
    Calls Try.prog 40 #[.pointer (some ⟨g, 0, none⟩), .pointer (some ⟨gm, 0, none⟩), .int .i64 k, .int .u64 va] w fun e w' => e = .returned (.tuple #[.int .u64 (if kd = 0 then m j else 0), .agg (fltV kd va false)]) ∧ RCoresAt w' g gb cap n tl K' ∧ Mod (crS g gb n tl) w w' := by
  have hb0 := (Below.refl _ w).alloc (Nat.le_refl _) (.cells #[.int .i64 0, .int .u64 0, .bool false] 61)
  have HF := hide (hf _ hb0)
  have hn : ¬ crS g gb n tl w.heap.size := fun h => Nat.lt_irrefl _ (hC.lt h)
  have HC0 := hide (hC.on hb0)
  have HM0 := hide (hM.on hb0)
  have hN := hM.le
  clear hf hC hM
  unfold fltV fltA
  go_enter Try.func40, Try.ntmps40
  go_upto_region 1 with fail
  have hkb := Blk.new w 61 #[.int .i64 0, .int .u64 0, .bool false]
  generalize w.alloc (.cells #[.int .i64 0, .int .u64 0, .bool false] 61) = W at hb0 HF hkb HC0 HM0 ⊢
  generalize hH : w.heap.size = H at *
  have HH := hide hH
  clear hH
  go_wp2_with fail
  refine HF.out.mono ?_
  rintro e w1 ⟨rfl, hr, hm⟩
  replace hkb := hkb.mod hm hn
  have hM1 := HM0.out.crR HC0.out hm
  have HM := hide ((Mod.of_below (HH.out ▸ hb0 : Below w.heap.size w W) (crS g gb n tl)).trans hm)
  have HR := hide (hr.mod (mod_set3 (Mod.refl (· = H) _) (.inl rfl) (.int .i64 0) (.int .u64 0) (.bool false)) (fun j hj e => hn (e ▸ hj)))
  have HR2 := hide (hr.mod (mod_set3 (Mod.refl (· = H) _) (.inl rfl) (.int .i64 kd) (.int .u64 va) (.bool false)) (fun j hj e => hn (e ▸ hj)))
  have z0 := hM1.hd.cell 0
  have hcj := hM1.cell j
  clear hr hm hb0 hM1
  obtain ⟨e0, e1, e2⟩ := hkb.c3
  obtain ⟨f0, f1, f2⟩ := hkb.f3
  by_cases hz : kd = 0
  · obtain ⟨rfl, hjN⟩ := hj hz
    subst hz
    have z1 := hcj hjN
    have j0 : (0 : Int) ≤ (j : Int) := by omega
    have j1 : (j : Int) < ((8 * N : Nat) : Int) := by omega
    clear hcj
    go_wp2_with fail
    refine bodyPost_ret (results_tmp_cell rfl _ _ H 61 _ (0, 0) _ rfl (hkb.set3 _ _ _) Try.underlying61 rfl (by kernel_rfl)) rfl ⟨rfl, HR.out, mod_set3 HM.out (.inr (Nat.le_of_eq HH.out)) _ _ _⟩
  · have hzf : (kd != 0) = true := by simpa using hz
    clear hcj z0
    go_wp2_with fail
    refine bodyPost_ret (results_tmp_cell rfl _ _ H 61 _ (0, 0) _ rfl (hkb.set3 _ _ _) Try.underlying61 rfl (by kernel_rfl)) rfl ⟨rfl, HR2.out, mod_set3 HM.out (.inr (Nat.le_of_eq HH.out)) _ _ _⟩
set_option maxRecDepth 100000 in
set_option maxHeartbeats 1000000 in
theorem rstore8 (at_ kd v : Int) (hv : 0 ≤ v ∧ v < 18446744073709551616) (w : World) (hC : RCoresAt w g gb cap n tl K) (hM : RefAt w gm gf N cp m) (j : Nat) (hj : kd = 0 → at_ = j ∧ j < 8 * N)
    (hf : ∀ W, Below w.heap.size w W → Calls Try.prog 66 #[.pointer (some ⟨g, 0, none⟩), .pointer (some ⟨gm, 0, none⟩), .int .i64 k, .int .u64 va, .bool true] W fun e w' => e = .returned (.tuple #[.int .i64 at_, .int .i64 kd]) ∧ RCoresAt w' g gb cap n tl K' ∧ Mod (crS g gb n tl) W w') :
    Calls Try.prog 39 #[.pointer (some ⟨g, 0, none⟩), .pointer (some ⟨gm, 0, none⟩), .int .i64 k, .int .u64 va, .int .u64 v] w fun e w' => e = .returned (.agg (fltV kd va true)) ∧ RCoresAt w' g gb cap n tl K' ∧ RefAt w' gm gf N cp (if kd = 0 then fun i => if i = j then v else m i else m) ∧ Mod (fun i => crS g gb n tl i ∨ i = gf) w w' := by
  have hb0 := (Below.refl _ w).alloc (Nat.le_refl _) (.cells #[.int .i64 0, .int .u64 0, .bool false] 61)
  have HF := hide (hf _ hb0)
  have hn : ¬ crS g gb n tl w.heap.size := fun h => Nat.lt_irrefl _ (hC.lt h)
  have HC0 := hide (hC.on hb0)
  have HM0 := hide (hM.on hb0)
  have hN := hM.le
  have hgm := hM.hd.lt
  have hgf := hM.ltf
  have HV := hide hv
  clear hf hC hM hv
  unfold fltV fltA
  go_enter Try.func39, Try.ntmps39
  go_upto_region 1 with fail
  have hkb := Blk.new w 61 #[.int .i64 0, .int .u64 0, .bool false]
  generalize w.alloc (.cells #[.int .i64 0, .int .u64 0, .bool false] 61) = W at hb0 HF hkb HC0 HM0 ⊢
  generalize hH : w.heap.size = H at *
  have HH := hide hH
  clear hH
  go_wp2_with fail
  refine HF.out.mono ?_
  rintro e w1 ⟨rfl, hr, hm⟩
  replace hkb := hkb.mod hm hn
  have hM1 := HM0.out.crR HC0.out hm
  have HM1 := hide hM1
  have HM := hide (((Mod.of_below (HH.out ▸ hb0 : Below w.heap.size w W) (crS g gb n tl)).trans hm).mono (T := fun i => crS g gb n tl i ∨ i = gf) (fun i hi => .inl (.inl hi)))
  have z0 := hM1.hd.cell 0
  have hcj := hM1.cell j
  have hfj := hM1.frozen j
  have HR := hide hr
  have HAP := hide (hr.apartR hM1)
  clear hr hm hb0 hM1
  by_cases hz : kd = 0
  · obtain ⟨rfl, hjN⟩ := hj hz
    subst hz
    have z1 := hcj hjN
    have j0 : (0 : Int) ≤ (j : Int) := by omega
    have j1 : (j : Int) < ((8 * N : Nat) : Int) := by omega
    clear hcj
    have hst := HM1.out.set_ j hjN v HV.out
    have hmo := Mod.one gf w1 j (.int .u64 v)
    replace hkb := hkb.mod hmo (by show ¬ (H = gf); omega)
    have HR1 := hide (HR.out.mod hmo (fun i hi e => (HAP.out i hi).2 (Eq.symm e)))
    have HMa := hide (HM.out.trans (hmo.mono (T := fun i => crS g gb n tl i ∨ i = gf) (fun i hi => .inl (.inr hi))))
    have HST := hide hst
    clear hst hmo HR HM HM1
    go_upto_region 5 with fail
    generalize w1.setCell ⟨gf, j, none⟩ (.int .u64 v) = w2 at *
    clear z0 z1 hfj
    have hR3 := mod_set3 (Mod.refl (· = H) w2) (.inl rfl) (.int .i64 0) (.int .u64 0) (.bool false)
    have HR4 := hide (HR1.out.mod hR3 (fun j hj e => hn (e ▸ hj)))
    have HM4 := hide (HST.out.same (hR3.block _ HST.out.hd.lt (fun e => by have e' : gm = H := e; omega)) (hR3.block _ HST.out.ltf (fun e => by have e' : gf = H := e; omega)))
    have HMM := hide (mod_set3 HMa.out (.inr (Nat.le_of_eq HH.out)) (.int .i64 0) (.int .u64 0) (.bool false))
    clear hR3
    obtain ⟨e0, e1, e2⟩ := hkb.c3
    obtain ⟨f0, f1, f2⟩ := hkb.f3
    go_wp2_with fail
    refine bodyPost_ret (results_cell1 rfl _ _ H 61 _ (0, 0) _ rfl (hkb.set3 _ _ _) Try.underlying61 rfl (by kernel_rfl)) rfl ⟨rfl, HR4.out, HM4.out, HMM.out⟩
  · have hzf : (kd != 0) = true := by simpa using hz
    clear hcj z0 hfj
    have hR3 := mod_set3 (Mod.refl (· = H) w1) (.inl rfl) (.int .i64 kd) (.int .u64 va) (.bool true)
    have HR4 := hide (HR.out.mod hR3 (fun j hj e => hn (e ▸ hj)))
    have HM4 := hide (HM1.out.same (hR3.block _ HM1.out.hd.lt (fun e => by have e' : gm = H := e; omega)) (hR3.block _ HM1.out.ltf (fun e => by have e' : gf = H := e; omega)))
    have HMM := hide (mod_set3 HM.out (.inr (Nat.le_of_eq HH.out)) (.int .i64 kd) (.int .u64 va) (.bool true))
    clear hR3
    obtain ⟨e0, e1, e2⟩ := hkb.c3
    obtain ⟨f0, f1, f2⟩ := hkb.f3
    go_wp2_with fail
    refine bodyPost_ret (results_cell1 rfl _ _ H 61 _ (0, 0) _ rfl (hkb.set3 _ _ _) Try.underlying61 rfl (by kernel_rfl)) rfl ⟨rfl, HR4.out, HM4.out, HMM.out⟩
end
theorem rload8_any (g gb cap n : Nat) (tl : Nat → Nat) (K : Nat → Core) (gm gf N cp : Nat) (m : Nat → Int) (k va : Int) (w : World) (hC : RCoresAt w g gb cap n tl K) (hM : RefAt w gm gf N cp m) (hG : GoodF n K N) (h0 : 0 ≤ va) :
    Calls Try.prog 40 #[.pointer (some ⟨g, 0, none⟩), .pointer (some ⟨gm, 0, none⟩), .int .i64 k, .int .u64 va] w fun e w' => e = .returned (.tuple #[.int .u64 (accL n K N m k va), .agg (fltV (accF n K N m k va false) va false)]) ∧ RCoresAt w' g gb cap n tl (accK n K N m k va) ∧ Mod (crS g gb n tl) w w' := by
  have hN := hM.pos
  unfold accL
  rw [accF_eq hG hN]
  refine rload8 g gb cap n tl K _ gm gf N cp m k va _ _ w hC hM ((accV n K N m k va false).1 / 8).toNat (fun hk => ?_) (fun W hb => rwhere_any g gb cap n tl K gm gf N cp m k va false W (hC.on hb) (hM.on hb) hG h0)
  have := accV_in (wr := false) (m := m) (k := k) (va := va) hG hN hk
  omega
theorem rstore8_any (g gb cap n : Nat) (tl : Nat → Nat) (K : Nat → Core) (gm gf N cp : Nat) (m : Nat → Int) (k va v : Int) (w : World) (hC : RCoresAt w g gb cap n tl K) (hM : RefAt w gm gf N cp m) (hG : GoodF n K N) (h0 : 0 ≤ va) (hv : 0 ≤ v ∧ v < 18446744073709551616) :
    Calls Try.prog 39 #[.pointer (some ⟨g, 0, none⟩), .pointer (some ⟨gm, 0, none⟩), .int .i64 k, .int .u64 va, .int .u64 v] w fun e w' => e = .returned (.agg (fltV (accF n K N m k va true) va true)) ∧ RCoresAt w' g gb cap n tl (accK n K N m k va) ∧ RefAt w' gm gf N cp (accM n K N m k va v) ∧ Mod (fun j => crS g gb n tl j ∨ j = gf) w w' := by
  have hN := hM.pos
  rw [accF_eq hG hN]
  have hacc : accM n K N m k va v = if (accV n K N m k va true).2 = 0 then fun i => if i = ((accV n K N m k va true).1 / 8).toNat then v else m i else m := by
    unfold accM
    by_cases hk : (accV n K N m k va true).2 = 0
    · rw [if_pos hk, if_pos hk]
      unfold storeV
      have := accV_in (wr := true) (m := m) (k := k) (va := va) hG hN hk
      rw [if_pos]
      unfold adr
      rw [if_neg (by omega), if_neg (by omega)]
    · rw [if_neg hk, if_neg hk]
  rw [hacc]
  refine rstore8 g gb cap n tl K _ gm gf N cp m k va _ _ v hv w hC hM ((accV n K N m k va true).1 / 8).toNat (fun hk => ?_) (fun W hb => rwhere_any g gb cap n tl K gm gf N cp m k va true W (hC.on hb) (hM.on hb) hG h0)
  have := accV_in (wr := true) (m := m) (k := k) (va := va) hG hN hk
  omega
end Go.Proofs.Ytlfenakabedmfaa
