/- Chapter 8: AccessScript. -/
import Derived.Test.YtlfenakabedmfaaLaw8
import Derived.Test.YtlfenakabedmfaaRef8b
import Derived.Test.YtlfenakabedmfaaSets
import Derived.Test.YtlfenakabedmfaaActs8
import Derived.Test.YtlfenakabedmfaaAlike
import Derived.Deep.RegionHeld3
namespace Go.Proofs.Ytlfenakabedmfaa
open Go.RowKit Go.Shelf
section
variable {w w' : World} {B H gb cap : Nat} {tl : Nat → Nat} {gf RH rgb rcap : Nat} {rtl : Nat → Nat} {rf : Nat} {K KR K' : Nat → Core} {m mr m' : Nat → Int}
theorem Sides.drew (h : Sides w B H gb cap tl gf RH rgb rcap rtl rf K KR m mr) : Sides w.drew B H gb cap tl gf RH rgb rcap rtl rf K KR m mr :=
  ⟨h.cores.same (fun _ _ => rfl), h.mem.same rfl rfl, h.rcores.same (fun _ _ => rfl), h.ref.same rfl rfl, h.s1, h.s2, h.s3, h.s4⟩
theorem Sides.offM (h : Sides w B H gb cap tl gf RH rgb rcap rtl rf K KR m mr) {P : Nat} (hP : rf + 1 < P) : ¬ (P = gf) := fun e => by
  have := h.apart; omega
theorem Sides.offRC (h : Sides w B H gb cap tl gf RH rgb rcap rtl rf K KR m mr) {P : Nat} (hP : rf + 1 < P) : ¬ crS RH rgb 2 rtl P := fun e => by
  have := h.s3 _ e; omega
theorem Sides.offRB (h : Sides w B H gb cap tl gf RH rgb rcap rtl rf K KR m mr) {P : Nat} (hP : rf + 1 < P) : ¬ (crS RH rgb 2 rtl P ∨ P = rf) := fun e => by
  rcases e with e | e
  · exact h.offRC hP e
  · omega
theorem Sides.geRC (h : Sides w B H gb cap tl gf RH rgb rcap rtl rf K KR m mr) : ∀ k, crS RH rgb 2 rtl k → B ≤ k := fun k e => by
  have := h.s3 k e; have := h.apart; have := h.s4; omega
theorem Sides.geRB (h : Sides w B H gb cap tl gf RH rgb rcap rtl rf K KR m mr) : ∀ k, (crS RH rgb 2 rtl k ∨ k = rf) → B ≤ k := fun k e => by
  rcases e with e | e
  · exact h.geRC k e
  · have := h.apart; have := h.s4; omega
theorem Sides.setRboth (h : Sides w B H gb cap tl gf RH rgb rcap rtl rf K KR m mr) (hC : RCoresAt w' RH rgb rcap 2 rtl K') (hM : RefAt w' (rf + 1) rf 8 64 m') (hm : Mod (fun j => crS RH rgb 2 rtl j ∨ j = rf) w w') : Sides w' B H gb cap tl gf RH rgb rcap rtl rf K K' m m' := by
  obtain ⟨a1, a2, a3, a4⟩ := h.apart
  have hx : ∀ k, (crS RH rgb 2 rtl k ∨ k = rf) → RH ≤ k := fun k e => by
    rcases e with e | e
    · exact (h.s3 k e).1
    · omega
  refine ⟨h.cores.mod hm (fun k hk e => ?_), h.mem.same (hm.block _ h.mem.hd.lt fun e => ?_) (hm.block _ h.mem.ltf fun e => ?_), hC, hM, h.s1, h.s2, h.s3, h.s4⟩
  · have := h.s1 k hk; have := hx _ e; omega
  · have := hx _ e; omega
  · have := hx _ e; omega
end
theorem GoodF.csetK {n N : Nat} {K : Nat → Core} (h : GoodF n K N) (k r s : Int) : GoodF n (csetK n K k r s) N := by
  unfold Go.Proofs.Ytlfenakabedmfaa.csetK
  split
  · exact h
  split
  · rename_i hk hs
    have hi : k.toNat < n := by omega
    refine h.upd_ _ ?_ (h.good.good _ hi) (fun _ => h.fr _ hi)
    unfold setOk at hs
    omega
  · exact h
theorem readyK_goodF : GoodF 2 readyK 8 := ⟨readyK_good, fun i _ j _ h => by
  exfalso
  apply h
  unfold readyK upd
  split
  · rfl
  split
  · rfl
  · rfl⟩
set_option maxRecDepth 100000 in
set_option maxHeartbeats 16000000 in
theorem law_AccessScript (w : World) (A : Option Addr) (n ca : Nat) (xs : Nat → Act8) (hA : Acts8 w A n xs) (hn : n ≤ 9223372036854775807) :
    Calls Try.prog 11 #[.slice A n ca] w fun e w' => e = .returned (.bool true) ∧ Below w.heap.size w w' := by
  have HA := hide hA
  clear hA
  by_cases h1 : 100 < n
  · go_enter Try.func11, Try.ntmps11
    go_wp2_with fail
    refine (awake8 _).mono ?_
    rintro e w1 ⟨rfl, hb⟩
    have HB := hide hb
    clear hb
    go_wp2_with fail
    go_ret
    exact ⟨rfl, HB.out⟩
  have hn1 : n ≤ 100 := by omega
  go_enter Try.func11, Try.ntmps11
  go_wp2_with fail
  refine (ready_any _).mono ?_
  rintro e w1 ⟨H, gb, cap, tl, gf, RH, rgb, rcap, rtl, rf, rfl, hS, hB⟩
  generalize hB0 : w.heap.size = B at *
  have HB0 := hide hB0
  have HS := hide hS
  have HB := hide hB
  clear hB0 hS hB
  go_wp2_with fail
  go_loopw [7] (fun i wr => ∃ j : Nat, j ≤ n ∧ i = .int .i64 j ∧ ∃ (K : Nat → Core) (m : Nat → Int), Sides wr B H gb cap tl gf RH rgb rcap rtl rf K K m m ∧ GoodF 2 K 8 ∧ Below B w wr) (fun i _ => n - (intOf i).toNat)
  case atStart => exact ⟨0, Nat.zero_le _, rfl, _, _, HS.out, readyK_goodF, HB.out⟩
  case round =>
    obtain ⟨j, hj, rfl, K, m, hS, hG, hB⟩ := hrel
    have HS2 := hide hS
    have HG := hide hG
    have HB2 := hide hB
    clear hS hG hB HS HB
    by_cases hlt : j < n
    · obtain ⟨b, off, rfl, hbl, hc⟩ := HA.out.resolve_left (by omega)
      obtain ⟨c0, c1, c2, c3, c4, c5, c6, c7, u1, u2⟩ := hc j hlt
      have hbB : b < B := HB0.out ▸ hbl
      rw [← HB2.out.cell (p := ⟨b, _, none⟩) hbB] at c0 c1 c2 c3 c4 c5 c6 c7
      have i1 : (0 : Int) ≤ (j : Int) := by omega
      have i2 : (j : Int) < (n : Int) := by omega
      clear hc
      have HU := hide (And.intro u1 u2)
      clear u1 u2
      generalize hq : xs j = q at c0 c1 c2 c3 c4 c5 c6 c7 HU
      clear hq
      obtain ⟨xc, xva, xv, xwr, xraw, xr, xs, xsr⟩ := q
      dsimp only at c0 c1 c2 c3 c4 c5 c6 c7 HU
      go_upto_block 2 with fail
      have hP := HS2.out.top
      have hx0 := Blk.new wr 83 #[.int .i64 xc, .int .u64 xva, .int .u64 xv, .bool xwr, .bool xraw, .int .i64 xr, .int .i64 xs, .bool xsr]
      have hal := (Below.refl wr.heap.size wr).alloc (Nat.le_refl _) (.cells #[.int .i64 xc, .int .u64 xva, .int .u64 xv, .bool xwr, .bool xraw, .int .i64 xr, .int .i64 xs, .bool xsr] 83)
      have HB3 := hide (HB2.out.trans (hal.mono (Nat.le_trans (Nat.le_of_eq HB0.out.symm) HB2.out.size)))
      have HS3 := hide (HS2.out.on hal)
      have HX := hide hx0
      clear HS2 HB2 c0 c1 c2 c3 c4 c5 c6 c7 hal hx0
      generalize wr.alloc (.cells #[.int .i64 xc, .int .u64 xva, .int .u64 xv, .bool xwr, .bool xraw, .int .i64 xr, .int .i64 xs, .bool xsr] 83) = W1 at HS3 HB3 HX ⊢
      generalize wr.heap.size = P at *
      have x0 := HX.out.cell 0
      have x1 := HX.out.cell 1
      have x2 := HX.out.cell 2
      have x3 := HX.out.cell 3
      have x4 := HX.out.cell 4
      have x5 := HX.out.cell 5
      have x6 := HX.out.cell 6
      have x7 := HX.out.cell 7
      have xl := HX.out.lt
      cases xsr
      · cases xraw
        · cases xwr
          · obtain ⟨a, b, c, hA⟩ : ∃ a b c, fltV (accF 2 K 8 m xc xva false) xva false = #[.int .i64 a, .int .u64 b, .bool c] := by unfold fltV fltA; split <;> exact ⟨_, _, _, rfl⟩
            have HA1 := hide (fun W (h : Sides W B H gb cap tl gf RH rgb rcap rtl rf K K m m) => aload_any H gb cap 2 tl K (gf + 1) gf 8 8 m xc xva W h.cores h.mem HG.out.good.ok HU.out.1.1 (HG.out.frOk (by decide) (by decide) _ _ _))
            have HA2 := hide (fun K1 W (h : Sides W B H gb cap tl gf RH rgb rcap rtl rf K1 K m m) => rload8_any RH rgb rcap 2 rtl K (rf + 1) rf 8 64 m xc xva W h.rcores h.ref HG.out HU.out.1.1)
            rw [hA] at HA1 HA2
            clear hA
            generalize accL 2 K 8 m xc xva = lv at HA1 HA2
            have heq := fun W => flt_eqA a b c a b c W
            simp only [BEq.rfl, Bool.and_self] at heq
            have hlv : (lv != lv) = false := bne_self_eq_false lv
            go_wp2_with fail
            refine (HA1.out _ HS3.out).mono ?_
            rintro e w4 ⟨rfl, hC, hm⟩
            have HS4 := hide (HS3.out.setCores hC hm)
            have HB4 := hide (below_mod HB3.out (Nat.le_of_eq HB0.out.symm) hm (fun k hk => (HS3.out.s1 k hk).1))
            have HX4 := hide (HX.out.mod hm (HS3.out.offC hP))
            clear hC hm x0 x1 x2 x3 x4 x5 x6 x7
            have hl4 := HX4.out.lt
            have hS4 := HS4.out.top
            have hal := (Below.refl w4.heap.size w4).alloc (Nat.le_refl _) (.cells #[.int .i64 a, .int .u64 b, .bool c] 61)
            have hkA := Blk.new w4 61 #[.int .i64 a, .int .u64 b, .bool c]
            have HX5 := hide (HX4.out.below hal hl4)
            have HB5 := hide (HB4.out.trans (hal.mono (Nat.le_trans (Nat.le_of_eq HB0.out.symm) HB4.out.size)))
            have HS5 := hide (HS4.out.on hal)
            go_upto_region 11 with fail
            generalize w4.alloc (.cells #[.int .i64 a, .int .u64 b, .bool c] 61) = w5 at hkA HX5 HB5 HS5 ⊢
            clear hal HX4 HB4 HS4 hl4
            generalize w4.heap.size = PA at *
            have x0 := HX5.out.cell 0
            have x1 := HX5.out.cell 1
            go_wp2_with fail
            refine (HA2.out _ _ HS5.out).mono ?_
            rintro e w6 ⟨rfl, hC, hm⟩
            have HS6a := hide (HS5.out.setRcores hC hm)
            have HB6a := hide (below_mod HB5.out (Nat.le_of_eq HB0.out.symm) hm HS5.out.geRC)
            have hkA2 := hkA.mod hm (HS5.out.offRC hS4)
            clear hC hm x0 x1
            have hlA := hkA2.lt
            have hal := (Below.refl w6.heap.size w6).alloc (Nat.le_refl _) (.cells #[.int .i64 a, .int .u64 b, .bool c] 61)
            have hkB := Blk.new w6 61 #[.int .i64 a, .int .u64 b, .bool c]
            have hkA3 := hkA2.below hal hlA
            have HB6 := hide (HB6a.out.trans (hal.mono (Nat.le_trans (Nat.le_of_eq HB0.out.symm) HB6a.out.size)))
            have HS6 := hide (HS6a.out.on hal)
            go_upto_region 12 with fail
            generalize w6.alloc (.cells #[.int .i64 a, .int .u64 b, .bool c] 61) = w7 at hkA3 hkB HB6 HS6 ⊢
            clear hal HX5 HB5 HS5 hkA hkA2 hlA HS6a HB6a
            obtain ⟨a0, a1, a2⟩ := hkA3.c3
            obtain ⟨b0, b1, b2⟩ := hkB.c3
            go_wp2
            go_roundw
            case rel => exact ⟨j + 1, by omega, by simp, _, _, HS6.out, HG.out.accK _ _ _, HB6.out⟩
            case measure => simp [intOf]; omega
          · have HSD := hide HS3.out.drew
            obtain ⟨a, b, c, hA⟩ : ∃ a b c, fltV (accF 2 K 8 m xc xva true) xva true = #[.int .i64 a, .int .u64 b, .bool c] := by unfold fltV fltA; split <;> exact ⟨_, _, _, rfl⟩
            have HA1 := hide (fun W (h : Sides W B H gb cap tl gf RH rgb rcap rtl rf K K m m) => astore_any H gb cap 2 tl K (gf + 1) gf 8 8 m xc xva xv W h.cores h.mem HG.out.good.ok HU.out.1.1 HU.out.2 (HG.out.frOk (by decide) (by decide) _ _ _))
            have HA2 := hide (fun K1 m1 W (h : Sides W B H gb cap tl gf RH rgb rcap rtl rf K1 K m1 m) => rstore8_any RH rgb rcap 2 rtl K (rf + 1) rf 8 64 m xc xva xv W h.rcores h.ref HG.out HU.out.1.1 HU.out.2)
            rw [hA] at HA1 HA2
            clear hA
            have heq := fun W => flt_eqA a b c a b c W
            simp only [BEq.rfl, Bool.and_self] at heq
            go_upto_region 21 with fail
            go_region_held3 (fun w' => w'.cell? ⟨P, 0, none⟩ = some (.int .i64 xc) ∧ w'.cell? ⟨P, 1, none⟩ = some (.int .u64 xva) ∧ w'.cell? ⟨P, 2, none⟩ = some (.int .u64 xv)) (first | (exact ⟨x0, x1, x2⟩) | (exact ⟨hq0, hq1, hq2⟩) | (exact ⟨hr0, hr1, hr2⟩)) ((first
              | (go_at_call 27; refine (HA1.out _ HSD.out).mono ?_; rintro e w2 ⟨rfl, hC4, hM4, hm4⟩; have hq0 := (hm4.cell (HSD.out.offB hP) (o := 0) xl).trans x0; have hq1 := (hm4.cell (HSD.out.offB hP) (o := 1) xl).trans x1; have hq2 := (hm4.cell (HSD.out.offB hP) (o := 2) xl).trans x2)
              | (go_at_call 32; refine (num_any _ _).mono ?_; rintro e w' ⟨rfl, rfl⟩)
              | (go_at_call 39; refine (HA2.out _ _ _ (HSD.out.setBoth hC4 hM4 hm4)).mono ?_; rintro e w3 ⟨rfl, hC5, hM5, hm5⟩; have hr0 := (hm5.cell (HSD.out.offRB hP) (o := 0) (Nat.lt_of_lt_of_le xl hm4.size)).trans hq0; have hr1 := (hm5.cell (HSD.out.offRB hP) (o := 1) (Nat.lt_of_lt_of_le xl hm4.size)).trans hq1; have hr2 := (hm5.cell (HSD.out.offRB hP) (o := 2) (Nat.lt_of_lt_of_le xl hm4.size)).trans hq2)))
            have HS6 := hide ((HSD.out.setBoth hC4 hM4 hm4).setRboth hC5 hM5 hm5)
            have HB6 := hide (below_mod (below_mod (HB3.out.drew) (Nat.le_of_eq HB0.out.symm) hm4 HSD.out.geB) (Nat.le_of_eq HB0.out.symm) hm5 HSD.out.geRB)
            clear hC4 hm4 hC5 hm5 hM4 hM5
            rename_i hHeld
            clear hHeld
            go_wp2
            go_roundw
            case rel => exact ⟨j + 1, by omega, by simp, _, _, HS6.out, HG.out.accK _ _ _, HB6.out⟩
            case measure => simp [intOf]; omega
        · go_wp2_with fail
          refine (pstore_any (gf + 1) gf 8 8 m xva xv _ HS3.out.mem HU.out.1.1 HU.out.2).mono ?_
          rintro e w4 ⟨rfl, hM, hm⟩
          have HS4 := hide (HS3.out.setMem hM hm)
          have HB4 := hide (below_mod HB3.out (Nat.le_of_eq HB0.out.symm) hm (fun k hk => by have := HS3.out.s4; have hk' : k = gf := hk; omega))
          have HX4 := hide (HX.out.mod hm (HS3.out.offM hP))
          clear hM hm x0 x1 x2 x3 x4 x5 x6 x7
          have x1 := HX4.out.cell 1
          have x2 := HX4.out.cell 2
          go_wp2_with fail
          refine (rstore_any (rf + 1) rf 8 64 m xva xv _ HS4.out.ref HU.out.1.1 HU.out.1.2 HU.out.2).mono ?_
          rintro e w5 ⟨rfl, hM, hm⟩
          have HS6 := hide (HS4.out.setRef hM hm)
          have HB6 := hide (below_mod HB4.out (Nat.le_of_eq HB0.out.symm) hm (fun k hk => by have := HS4.out.apart; have hk' : k = rf := hk; omega))
          clear hM hm HS4 HB4 HX4 x1 x2
          go_wp2
          go_roundw
          case rel => exact ⟨j + 1, by omega, by simp, _, _, HS6.out, HG.out, HB6.out⟩
          case measure => simp [intOf]; omega
      · have HSD := hide HS3.out.drew
        have hcc : ∀ x : Int, (x != x) = false := fun x => bne_self_eq_false x
        generalize hce : csetE 2 xc xr xs = ce
        have HCE := hide hce
        clear hce
        go_upto_region 15 with fail
        go_region_held3 (fun w' => w'.cell? ⟨P, 0, none⟩ = some (.int .i64 xc) ∧ w'.cell? ⟨P, 5, none⟩ = some (.int .i64 xr) ∧ w'.cell? ⟨P, 6, none⟩ = some (.int .i64 xs)) (first | (exact ⟨x0, x5, x6⟩) | (exact ⟨hq0, hq5, hq6⟩) | (exact ⟨hr0, hr5, hr6⟩)) ((first
          | (go_at_call 17; refine (cset_any H gb cap 2 tl K xc xr xs _ HSD.out.cores).mono ?_; rintro e w2 ⟨rfl, hC4, hm4⟩; have hq0 := (hm4.cell (HSD.out.offC hP) (o := 0) xl).trans x0; have hq5 := (hm4.cell (HSD.out.offC hP) (o := 5) xl).trans x5; have hq6 := (hm4.cell (HSD.out.offC hP) (o := 6) xl).trans x6)
          | (go_at_call 32; refine (num_any _ _).mono ?_; rintro e w' ⟨rfl, rfl⟩)
          | (go_at_call 38; refine (rcset_any RH rgb rcap 2 rtl K xc xr xs _ (HSD.out.setCores hC4 hm4).rcores).mono ?_; rintro e w3 ⟨rfl, hC5, hm5⟩; have hr0 := (hm5.cell (HSD.out.offRC hP) (o := 0) (Nat.lt_of_lt_of_le xl hm4.size)).trans hq0; have hr5 := (hm5.cell (HSD.out.offRC hP) (o := 5) (Nat.lt_of_lt_of_le xl hm4.size)).trans hq5; have hr6 := (hm5.cell (HSD.out.offRC hP) (o := 6) (Nat.lt_of_lt_of_le xl hm4.size)).trans hq6)))
        have HS6 := hide ((HSD.out.setCores hC4 hm4).setRcores hC5 hm5)
        have HB6 := hide (below_mod (below_mod (HB3.out.drew) (Nat.le_of_eq HB0.out.symm) hm4 (fun k hk => (HSD.out.s1 k hk).1)) (Nat.le_of_eq HB0.out.symm) hm5 HSD.out.geRC)
        clear hC4 hm4 hC5 hm5
        rename_i hHeld
        clear hHeld
        go_wp2
        go_roundw
        case rel => exact ⟨j + 1, by omega, by simp, _, _, HS6.out, HG.out.csetK _ _ _, HB6.out⟩
        case measure => simp [intOf]; omega
    · obtain rfl : j = n := by omega
      go_wp2_with fail
      refine (alike_any _ _ _ _ _ _ _ _ _ HS2.out.mem HS2.out.ref).mono ?_
      rintro e w5 ⟨rfl, hb⟩
      have HB5 := hide (HB2.out.trans (hb.mono (Nat.le_trans (Nat.le_of_eq HB0.out.symm) HB2.out.size)))
      clear hb
      go_wp2_with fail
      refine (awake8 _).mono ?_
      rintro e w6 ⟨rfl, hb⟩
      have HB6 := hide (HB5.out.trans (hb.mono (Nat.le_trans (Nat.le_of_eq HB0.out.symm) HB5.out.size)))
      clear hb
      go_wp2_with fail
      go_ret
      exact ⟨rfl, by rw [HB0.out]; exact HB6.out⟩
end Go.Proofs.Ytlfenakabedmfaa
