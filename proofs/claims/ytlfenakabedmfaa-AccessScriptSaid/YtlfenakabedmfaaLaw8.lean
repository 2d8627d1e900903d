/- Chapter 8: awake, AccessNone. -/
import Derived.Test.YtlfenakabedmfaaAccess3
import Derived.Test.YtlfenakabedmfaaReady2
import Derived.Test.YtlfenakabedmfaaLaw0
import Derived.ChangeKeysEq
namespace Go.Proofs.Ytlfenakabedmfaa
open Go.RowKit Go.Shelf
theorem flt_eqA (a b : Int) (c : Bool) (a' b' : Int) (c' : Bool) (w : World) : (Op.equalIn 10000 61 (.agg #[.int .i64 a, .int .u64 b, .bool c]) (.agg #[.int .i64 a', .int .u64 b', .bool c'])).run Try.prog w = .ok (a == a' && (b == b' && c == c')) w := by
  go_simp
  (repeat' split) <;> simp_all
theorem findTr_fr {c : Cache} (hc : Good c) (sp pg : Int) : 0 ≤ (findTr c sp pg).fr ∧ (findTr c sp pg).fr < 64 := by
  unfold findTr
  cases hv : findV c sp pg with
  | none => exact ⟨Int.le_refl 0, show (0 : Int) < 64 by decide⟩
  | some i =>
    have h2 := mem_vis.1 (List.mem_of_find?_eq_some hv)
    have h3 := (hc.may i h2.1 h2.2).1
    exact ⟨h3.2.2.2.1, h3.2.2.2.2.1⟩
theorem frOk_good {n : Nat} {K : Nat → Core} (h : GoodK n K) (N : Nat) (m : Nat → Int) (k va : Int) : frOk n K N m k va := by
  unfold frOk trV
  split
  · rename_i ht
    obtain ⟨h0, h1, _⟩ := ht
    unfold trIn
    split
    · exact ⟨by decide, by decide⟩
    split
    · exact findTr_fr (h.good _ (by omega)) _ _
    split
    · unfold wlkT
      exact ⟨Int.emod_nonneg _ (by decide), Int.emod_lt_of_pos _ (by decide)⟩
    · exact ⟨Int.le_refl 0, show (0 : Int) < 64 by decide⟩
  · exact ⟨by decide, by decide⟩
theorem GoodK.accK {n : Nat} {K : Nat → Core} (h : GoodK n K) (N : Nat) (m : Nat → Int) (k va : Int) : GoodK n (accK n K N m k va) := by
  unfold Go.Proofs.Ytlfenakabedmfaa.accK
  split
  · exact h
  · exact h.trK N m k _
theorem readyK_good : GoodK 2 readyK := ((GoodK.start 2).upd_ 0 (.inr (by decide)) Good.empty).upd_ 1 (.inr (by decide)) Good.empty
theorem Sides.setBoth {w w' : World} {B H gb cap : Nat} {tl : Nat → Nat} {gf RH rgb rcap : Nat} {rtl : Nat → Nat} {rf : Nat} {K KR K' : Nat → Core} {m mr m' : Nat → Int} (h : Sides w B H gb cap tl gf RH rgb rcap rtl rf K KR m mr) (hC : CoresAt w' H gb cap 2 tl K') (hM : MemAt w' (gf + 1) gf 8 8 m') (hm : Mod (fun j => crS H gb 2 tl j ∨ j = gf) w w') : Sides w' B H gb cap tl gf RH rgb rcap rtl rf K' KR m' mr := by
  obtain ⟨a1, a2, a3, a4⟩ := h.apart
  refine ⟨hC, hM, h.rcores.mod hm (fun k hk e => ?_), h.ref.same (hm.block _ h.ref.hd.lt fun e => ?_) (hm.block _ h.ref.ltf fun e => ?_), h.s1, h.s2, h.s3, h.s4⟩
  · have := h.s3 k hk
    rcases e with e | e
    · have := h.s1 _ e; omega
    · omega
  · rcases e with e | e
    · have := h.s1 _ e; omega
    · omega
  · rcases e with e | e
    · have := h.s1 _ e; omega
    · omega
theorem fltV_zero (va : Int) (wr : Bool) : fltV 0 va wr = #[.int .i64 0, .int .u64 0, .bool false] := rfl
theorem fltV_ne {kd : Int} (h : kd ≠ 0) (va : Int) (wr : Bool) : fltV kd va wr = #[.int .i64 kd, .int .u64 va, .bool wr] := if_neg h
section
variable {w : World} {B H gb cap : Nat} {tl : Nat → Nat} {gf RH rgb rcap : Nat} {rtl : Nat → Nat} {rf : Nat} {K KR : Nat → Core} {m mr : Nat → Int}
theorem Sides.top (h : Sides w B H gb cap tl gf RH rgb rcap rtl rf K KR m mr) : rf + 1 < w.heap.size := h.ref.hd.lt
theorem Sides.offC (h : Sides w B H gb cap tl gf RH rgb rcap rtl rf K KR m mr) {P : Nat} (hP : rf + 1 < P) : ¬ crS H gb 2 tl P := fun e => by
  have := h.s1 _ e; have := h.apart; omega
theorem Sides.offB (h : Sides w B H gb cap tl gf RH rgb rcap rtl rf K KR m mr) {P : Nat} (hP : rf + 1 < P) : ¬ (crS H gb 2 tl P ∨ P = gf) := fun e => by
  have := h.apart
  rcases e with e | e
  · exact h.offC hP e
  · omega
theorem Sides.geB (h : Sides w B H gb cap tl gf RH rgb rcap rtl rf K KR m mr) : ∀ k, (crS H gb 2 tl k ∨ k = gf) → B ≤ k := fun k e => by
  have := h.s4
  rcases e with e | e
  · exact (h.s1 k e).1
  · omega
end
/-- What awake sees. -/
def awM : Nat → Int := storeV 8 (readyM 9) 200 9
theorem aw8 : (accL 2 readyK 8 awM 0 8 = 9 ∧ accF 2 readyK 8 awM 0 8 false = 0) ∧ accF 2 (accK 2 readyK 8 awM 0 8) 8 awM 0 8 true = 5 := by decide +kernel
set_option maxRecDepth 100000 in
set_option maxHeartbeats 2000000 in
theorem awake8 (w : World) : Calls Try.prog 29 #[] w fun e w' => e = .returned (.bool true) ∧ Below w.heap.size w w' := by
  go_enter Try.func29, Try.ntmps29
  go_wp2_with fail
  refine (ready_any _).mono ?_
  rintro e w1 ⟨H, gb, cap, tl, gf, RH, rgb, rcap, rtl, rf, rfl, hS, hB⟩
  generalize hB0 : w.heap.size = B at *
  have HB0 := hide hB0
  have HS := hide hS
  have HB := hide hB
  clear hB0 hS hB
  go_wp2_with fail
  refine (pstore_any (gf + 1) gf 8 8 _ 200 9 _ HS.out.mem (by decide) (by decide)).mono ?_
  rintro e w2 ⟨rfl, hM, hm⟩
  replace HB := hide (below_mod HB.out (Nat.le_of_eq HB0.out.symm) hm (fun k hk => by have := HS.out.s4; have hk' : k = gf := hk; omega))
  replace HS := hide (HS.out.setMem (m' := awM) hM hm)
  clear hM hm
  go_wp2_with fail
  refine (aload_any H gb cap 2 tl readyK (gf + 1) gf 8 8 awM 0 8 _ HS.out.cores HS.out.mem readyK_good.ok (by decide) (frOk_good readyK_good _ _ _ _)).mono ?_
  rintro e w3 ⟨rfl, hC, hm⟩
  replace HB := hide (below_mod HB.out (Nat.le_of_eq HB0.out.symm) hm (fun k hk => (HS.out.s1 k hk).1))
  replace HS := hide (HS.out.setCores hC hm)
  clear hC hm
  rw [aw8.1.1, aw8.1.2, fltV_zero]
  have hP := HS.out.top
  have hal := (Below.refl w3.heap.size w3).alloc (Nat.le_refl _) (.cells #[.int .i64 0, .int .u64 0, .bool false] 61)
  have hk := Blk.new w3 61 #[.int .i64 0, .int .u64 0, .bool false]
  replace HB := hide (HB.out.trans (hal.mono (Nat.le_trans (Nat.le_of_eq HB0.out.symm) HB.out.size)))
  replace HS := hide (HS.out.on hal)
  go_upto_region 6 with fail
  generalize w3.alloc (.cells #[.int .i64 0, .int .u64 0, .bool false] 61) = w4 at hk HB HS ⊢
  clear hal
  generalize w3.heap.size = P at *
  go_wp2_with fail
  refine (astore_any H gb cap 2 tl (accK 2 readyK 8 awM 0 8) (gf + 1) gf 8 8 awM 0 8 1 _ HS.out.cores HS.out.mem (readyK_good.accK _ _ _ _).ok (by decide) (by decide) (frOk_good (readyK_good.accK _ _ _ _) _ _ _ _)).mono ?_
  rintro e w5 ⟨rfl, hC, hM, hm⟩
  replace hk := hk.mod hm (HS.out.offB hP)
  replace HB := hide (below_mod HB.out (Nat.le_of_eq HB0.out.symm) hm HS.out.geB)
  rw [aw8.2, fltV_ne (by decide)]
  have hPl := hk.lt
  have hal := (Below.refl w5.heap.size w5).alloc (Nat.le_refl _) (.cells #[.int .i64 5, .int .u64 8, .bool true] 61)
  have hkg := Blk.new w5 61 #[.int .i64 5, .int .u64 8, .bool true]
  replace HB := hide (HB.out.trans (hal.mono (Nat.le_trans (Nat.le_of_eq HB0.out.symm) HB.out.size)))
  replace hk := hk.below hal hPl
  go_upto_region 7 with fail
  generalize w5.alloc (.cells #[.int .i64 5, .int .u64 8, .bool true] 61) = w6 at hk hkg HB ⊢
  clear hal hC hM hm
  generalize w5.heap.size = Q at *
  obtain ⟨a0, a1, a2⟩ := hk.c3
  obtain ⟨b0, b1, b2⟩ := hkg.c3
  have hq1 := fun W => flt_eqA 0 0 false 0 0 false W
  have hq2 := fun W => flt_eqA 5 8 true 5 8 true W
  simp only [BEq.rfl, Bool.and_self] at hq1 hq2
  go_wp2_with fail
  go_ret
  exact ⟨rfl, by rw [HB0.out]; exact HB.out⟩
set_option maxRecDepth 100000 in
set_option maxHeartbeats 2000000 in
theorem law_AccessNone (k va v : Int) (_ : (Lit.int .i64 k).wf = true) (hva : (Lit.int .u64 va).wf = true) (_ : (Lit.int .u64 v).wf = true) (w : World) : Calls Try.prog 8 #[.int .i64 k, .int .u64 va, .int .u64 v] w fun e w' => e = .returned (.bool true) ∧ Below w.heap.size w w' := by
  obtain ⟨va0, va1⟩ := wfu hva
  have q0 : va.tmod 32768 = va % 32768 := Int.tmod_eq_emod_of_nonneg va0
  have q1 : (va % 32768).tdiv 8 = va % 32768 / 8 := Int.tdiv_eq_ediv_of_nonneg (Int.emod_nonneg _ (by decide))
  have q2 : IntKind.u64.wrap (va % 32768 / 8 * 8) = va % 32768 / 8 * 8 := by rw [IntKind.wrap_u64]; omega
  have z0 : 0 ≤ va % 32768 / 8 * 8 := by omega
  have z1 : va % 32768 / 8 * 8 < 32768 := by omega
  have z2 : va % 32768 / 8 * 8 % 8 = 0 := by omega
  go_enter Try.func8, Try.ntmps8
  go_wp2_with fail
  refine (ready_any _).mono ?_
  rintro e w1 ⟨H, gb, cap, tl, gf, RH, rgb, rcap, rtl, rf, rfl, hS, hB⟩
  generalize hB0 : w.heap.size = B at *
  have HB0 := hide hB0
  have HS := hide hS
  have HB := hide hB
  clear hB0 hS hB
  go_upto_region 3 with fail
  generalize va % 32768 / 8 * 8 = u at z0 z1 z2 ⊢
  clear q0 q1 q2
  go_wp2_with fail
  refine (aload_nil _ k u _ z0 z1 z2).mono ?_
  rintro e w2 ⟨rfl, hb⟩
  replace HS := hide (HS.out.on (hb))
  replace HB := hide (HB.out.trans (hb.mono (Nat.le_trans (Nat.le_of_eq HB0.out.symm) HB.out.size)))
  have hal := (Below.refl w2.heap.size w2).alloc (Nat.le_refl _) (.cells #[.int .i64 3, .int .u64 u, .bool false] 61)
  have hk := Blk.new w2 61 #[.int .i64 3, .int .u64 u, .bool false]
  replace HB := hide (HB.out.trans (hal.mono (Nat.le_trans (Nat.le_of_eq HB0.out.symm) HB.out.size)))
  replace HS := hide (HS.out.on hal)
  unfold fltA
  go_upto_region 4 with fail
  generalize w2.alloc (.cells #[.int .i64 3, .int .u64 u, .bool false] 61) = w4 at hk HB HS ⊢
  clear hal hb
  generalize w2.heap.size = P at *
  go_wp2_with fail
  refine (astore_memnil H gb cap 2 tl readyK 0 u v _ HS.out.cores (by decide) z0 z1 z2).mono ?_
  rintro e w5 ⟨rfl, hb⟩
  replace hk := blk_below hk hb
  replace HB := hide (HB.out.trans (hb.mono (Nat.le_trans (Nat.le_of_eq HB0.out.symm) HB.out.size)))
  have hPl := hk.lt
  have hal := (Below.refl w5.heap.size w5).alloc (Nat.le_refl _) (.cells #[.int .i64 3, .int .u64 u, .bool true] 61)
  have hkg := Blk.new w5 61 #[.int .i64 3, .int .u64 u, .bool true]
  replace HB := hide (HB.out.trans (hal.mono (Nat.le_trans (Nat.le_of_eq HB0.out.symm) HB.out.size)))
  replace hk := hk.below hal hPl
  unfold fltA
  go_upto_region 5 with fail
  generalize w5.alloc (.cells #[.int .i64 3, .int .u64 u, .bool true] 61) = w6 at hk hkg HB ⊢
  clear hal hb
  generalize w5.heap.size = Q at *
  obtain ⟨a0, a1, a2⟩ := hk.c3
  obtain ⟨b0, b1, b2⟩ := hkg.c3
  have hq1 := fun W => flt_eqA 3 u false 3 u false W
  have hq2 := fun W => flt_eqA 3 u true 3 u true W
  simp only [BEq.rfl, Bool.and_self] at hq1 hq2
  go_wp2_with fail
  refine (awake8 _).mono ?_
  rintro e w7 ⟨rfl, hb⟩
  replace HB := hide (HB.out.trans (hb.mono (Nat.le_trans (Nat.le_of_eq HB0.out.symm) HB.out.size)))
  go_wp2_with fail
  go_ret
  exact ⟨rfl, by rw [HB0.out]; exact HB.out⟩
end Go.Proofs.Ytlfenakabedmfaa
