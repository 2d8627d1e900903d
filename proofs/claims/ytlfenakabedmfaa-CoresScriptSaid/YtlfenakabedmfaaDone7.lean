/- Chapter 7: the walk of done. -/
import Derived.Test.YtlfenakabedmfaaSidesN
import Derived.Test.YtlfenakabedmfaaAlike7
import Derived.Test.YtlfenakabedmfaaSets
import Derived.Test.YtlfenakabedmfaaLaw7
import Derived.Deep.RegionHeld3
namespace Go.Proofs.Ytlfenakabedmfaa
open Go.RowKit Go.Shelf
theorem isPage_R7 (sp pg : Int) (h : pg ≠ -1) : isPage sp pg = isDropR false sp pg := by
  funext y
  have e : (pg == -1) = false := by simpa using h
  simp [isPage, isDropR, e]
theorem isSpace_R7 (sp : Int) : isSpace sp = isDropR false sp (-1) := by
  funext y
  simp [isSpace, isDropR]
theorem SidesN.leB {w : World} {n B H gb cap : Nat} {tl : Nat → Nat} {gf RH rgb rcap : Nat} {rtl : Nat → Nat} {rf : Nat} {K KR : Nat → Core} {m mr : Nat → Int} (h : SidesN n w B H gb cap tl gf RH rgb rcap rtl rf K KR m mr) : B ≤ w.heap.size := by
  have := h.mem.ltf; have := h.s4; omega
theorem GoodK.csetK {n : Nat} {K : Nat → Core} (h : GoodK n K) (k r s : Int) : GoodK n (csetK n K k r s) := by
  unfold Go.Proofs.Ytlfenakabedmfaa.csetK
  split
  · exact h
  split
  · rename_i hk hs
    have hi : k.toNat < n := by omega
    refine h.upd_ _ ?_ (h.good _ hi)
    unfold setOk at hs
    omega
  · exact h
theorem SidesN.offF {w : World} {n B H gb cap : Nat} {tl : Nat → Nat} {gf RH rgb rcap : Nat} {rtl : Nat → Nat} {rf : Nat} {K KR : Nat → Core} {m mr : Nat → Int} (_ : SidesN n w B H gb cap tl gf RH rgb rcap rtl rf K KR m mr) {P : Nat} (hP : rf + 1 < P) : ¬ (P = rf) := fun e => by
  omega
section
variable (n B H gb cap : Nat) (tl : Nat → Nat) (gf RH rgb rcap : Nat) (rtl : Nat → Nat) (rf : Nat) (K : Nat → Core) (m : Nat → Int)
set_option maxRecDepth 100000 in
set_option maxHeartbeats 16000000 in
theorem done7_any (xd xc xr xs xp xt xy xa xv : Int) (hxa : 0 ≤ xa ∧ xa < 18446744073709551616) (hxv : 0 ≤ xv ∧ xv < 18446744073709551616) (w : World) (hS : SidesN n w B H gb cap tl gf RH rgb rcap rtl rf K K m m) (hG : GoodK n K) :
    Calls Try.prog 34 #[.pointer (some ⟨H, 0, none⟩), .pointer (some ⟨RH, 0, none⟩), .pointer (some ⟨gf + 1, 0, none⟩), .pointer (some ⟨rf + 1, 0, none⟩), .agg #[.int .i64 xd, .int .i64 xc, .int .i64 xr, .int .i64 xs, .int .i64 xp, .int .i64 xt, .int .i64 xy, .int .u64 xa, .int .u64 xv]] w fun e w' => e = .returned (.bool true) ∧ (∃ (K' : Nat → Core) (m' : Nat → Int), SidesN n w' B H gb cap tl gf RH rgb rcap rtl rf K' K' m' m' ∧ GoodK n K') ∧ Below B w w' := by
  have hBw := hS.leB
  have hP := hS.top
  have hal := (Below.refl w.heap.size w).alloc (Nat.le_refl _) (.cells #[.int .i64 xd, .int .i64 xc, .int .i64 xr, .int .i64 xs, .int .i64 xp, .int .i64 xt, .int .i64 xy, .int .u64 xa, .int .u64 xv] 46)
  have hx := Blk.new w 46 #[.int .i64 xd, .int .i64 xc, .int .i64 xr, .int .i64 xs, .int .i64 xp, .int .i64 xt, .int .i64 xy, .int .u64 xa, .int .u64 xv]
  have HS3 := hide (hS.on hal)
  have HB3 := hide ((Below.refl B w).alloc hBw (.cells #[.int .i64 xd, .int .i64 xc, .int .i64 xr, .int .i64 xs, .int .i64 xp, .int .i64 xt, .int .i64 xy, .int .u64 xa, .int .u64 xv] 46))
  have HG := hide hG
  have HU := hide (And.intro hxa hxv)
  clear hS hG hal hxa hxv
  go_enter Try.func34, Try.ntmps34
  go_upto_region 1 with fail
  have HX := hide hx
  clear hx
  generalize w.alloc (.cells #[.int .i64 xd, .int .i64 xc, .int .i64 xr, .int .i64 xs, .int .i64 xp, .int .i64 xt, .int .i64 xy, .int .u64 xa, .int .u64 xv] 46) = W1 at HS3 HB3 HX ⊢
  generalize w.heap.size = P at *
  have x0 : W1.cell? ⟨P, 0, none⟩ = some (.int .i64 xd) := HX.out.cell 0
  have x1 : W1.cell? ⟨P, 1, none⟩ = some (.int .i64 xc) := HX.out.cell 1
  have x2 : W1.cell? ⟨P, 2, none⟩ = some (.int .i64 xr) := HX.out.cell 2
  have x3 : W1.cell? ⟨P, 3, none⟩ = some (.int .i64 xs) := HX.out.cell 3
  have x4 : W1.cell? ⟨P, 4, none⟩ = some (.int .i64 xp) := HX.out.cell 4
  have x5 : W1.cell? ⟨P, 5, none⟩ = some (.int .i64 xt) := HX.out.cell 5
  have x6 : W1.cell? ⟨P, 6, none⟩ = some (.int .i64 xy) := HX.out.cell 6
  have x7 : W1.cell? ⟨P, 7, none⟩ = some (.int .u64 xa) := HX.out.cell 7
  have x8 : W1.cell? ⟨P, 8, none⟩ = some (.int .u64 xv) := HX.out.cell 8
  have xl := HX.out.lt
  by_cases h0 : xd = 0
  · subst h0
    have hcc : ∀ x : Int, (x == x) = true := fun x => BEq.rfl
    generalize hce : csetE n xc xr xs = ce
    have HC1 := hide (fun W hW => cset_any H gb cap n tl K xc xr xs W hW)
    have HC2 := hide (fun W hW => rcset_any RH rgb rcap n rtl K xc xr xs W hW)
    rw [hce] at HC1 HC2
    clear hce
    have HSD := hide HS3.out.drew
    go_upto_region 3 with fail
    have xd1 : W1.drew.cell? ⟨P, 1, none⟩ = some (.int .i64 xc) := x1
    have xd2 : W1.drew.cell? ⟨P, 2, none⟩ = some (.int .i64 xr) := x2
    have xd3 : W1.drew.cell? ⟨P, 3, none⟩ = some (.int .i64 xs) := x3
    go_region_held3 (fun w' => w'.cell? ⟨P, 1, none⟩ = some (.int .i64 xc) ∧ w'.cell? ⟨P, 2, none⟩ = some (.int .i64 xr) ∧ w'.cell? ⟨P, 3, none⟩ = some (.int .i64 xs)) (first | (with_reducible exact ⟨xd1, xd2, xd3⟩) | (with_reducible exact ⟨hq1, hq2, hq3⟩) | (with_reducible exact ⟨hr1, hr2, hr3⟩) | (fail "no")) ((first
      | (go_at_call 17; refine (HC1.out _ HSD.out.cores).mono ?_; rintro e w2 ⟨rfl, hC4, hm4⟩; have hq1 := (hm4.cell (HSD.out.offC hP) (o := 1) xl).trans x1; have hq2 := (hm4.cell (HSD.out.offC hP) (o := 2) xl).trans x2; have hq3 := (hm4.cell (HSD.out.offC hP) (o := 3) xl).trans x3)
      | (go_at_call 32; refine (num_any _ _).mono ?_; rintro e w' ⟨rfl, rfl⟩)
      | (go_at_call 38; refine (HC2.out _ (HSD.out.setCores hC4 hm4).rcores).mono ?_; rintro e w3 ⟨rfl, hC5, hm5⟩; have hr1 := (hm5.cell (HSD.out.offRC hP) (o := 1) (Nat.lt_of_lt_of_le xl hm4.size)).trans hq1; have hr2 := (hm5.cell (HSD.out.offRC hP) (o := 2) (Nat.lt_of_lt_of_le xl hm4.size)).trans hq2; have hr3 := (hm5.cell (HSD.out.offRC hP) (o := 3) (Nat.lt_of_lt_of_le xl hm4.size)).trans hq3)))
    have HS6 := hide ((HSD.out.setCores hC4 hm4).setRcores hC5 hm5)
    have HB6 := hide ((HB3.out.drew.trans (hm4.below HSD.out.leB (fun k hk => (HSD.out.s1 k hk).1))).trans (hm5.below (Nat.le_trans HSD.out.leB hm4.size) HSD.out.geRC))
    clear hC4 hm4 hC5 hm5
    rename_i hHeld
    clear hHeld
    go_wp2_with fail
    go_ret
    exact ⟨rfl, ⟨_, _, HS6.out, HG.out.csetK _ _ _⟩, HB6.out⟩
  by_cases h1 : xd = 1
  · subst h1
    clear h0
    have HT1 := hide (fun W hW hM => ctrans_any H gb cap n tl K (gf + 1) gf 8 8 m xc xp W hW hM HG.out.ok)
    have HT2 := hide (fun W hW hM => rctrans_any RH rgb rcap n rtl K (rf + 1) rf 8 64 m xc xp W hW hM HG.out)
    have HGK := hide (HG.out.trK 8 m xc xp)
    obtain ⟨⟨⟨ta, tb, tc, td, te⟩, o, q⟩, hV⟩ : ∃ V, trV n K 8 m xc xp = V := ⟨_, rfl⟩
    rw [hV] at HT1 HT2
    obtain ⟨K', hK'⟩ : ∃ K', trK n K 8 m xc xp = K' := ⟨_, rfl⟩
    rw [hK'] at HT1 HT2 HGK
    clear hV hK'
    dsimp only [Tr.row] at HT1 HT2
    have heq := fun W => tr_eqA ta tb tc td te ta tb tc td te W
    simp only [BEq.rfl, Bool.and_self] at heq
    have ho : (o == o) = true := BEq.rfl
    have hqq : (q == q) = true := BEq.rfl
    go_wp2_with fail
    refine (HT1.out _ HS3.out.cores HS3.out.mem).mono ?_
    rintro e w4 ⟨rfl, hC, hm⟩
    have HS4 := hide (HS3.out.setCores hC hm)
    have HB4 := hide (HB3.out.trans (hm.below HS3.out.leB (fun k hk => (HS3.out.s1 k hk).1)))
    have HX4 := hide (HX.out.mod hm (HS3.out.offC hP))
    clear hC hm x0 x1 x2 x3 x4 x5 x6 x7 x8 HB3
    have hl4 := HX4.out.lt
    have hS4 := HS4.out.top
    have hal := (Below.refl w4.heap.size w4).alloc (Nat.le_refl _) (.cells #[.int .i64 ta, .int .i64 tb, .int .i64 tc, .bool td, .bool te] 42)
    have hkA := Blk.new w4 42 #[.int .i64 ta, .int .i64 tb, .int .i64 tc, .bool td, .bool te]
    have HX5 := hide (HX4.out.below hal hl4)
    have HB5 := hide (HB4.out.trans (hal.mono HS4.out.leB))
    have HS5 := hide (HS4.out.on hal)
    go_upto_region 6 with fail
    generalize w4.alloc (.cells #[.int .i64 ta, .int .i64 tb, .int .i64 tc, .bool td, .bool te] 42) = w5 at hkA HX5 HB5 HS5 ⊢
    clear hal HX4 HB4 HS4 hl4 HS3 HX
    generalize w4.heap.size = PA at *
    have x1 := HX5.out.cell 1
    have x4 := HX5.out.cell 4
    go_wp2_with fail
    refine (HT2.out _ HS5.out.rcores HS5.out.ref).mono ?_
    rintro e w6 ⟨rfl, hC, hm⟩
    have HS6a := hide (HS5.out.setRcores hC hm)
    have HB6a := hide (HB5.out.trans (hm.below HS5.out.leB HS5.out.geRC))
    have hkA2 := hkA.mod hm (HS5.out.offRC hS4)
    clear hC hm x1 x4
    have hlA := hkA2.lt
    have hal := (Below.refl w6.heap.size w6).alloc (Nat.le_refl _) (.cells #[.int .i64 ta, .int .i64 tb, .int .i64 tc, .bool td, .bool te] 42)
    have hkB := Blk.new w6 42 #[.int .i64 ta, .int .i64 tb, .int .i64 tc, .bool td, .bool te]
    have hkA3 := hkA2.below hal hlA
    have HB6 := hide (HB6a.out.trans (hal.mono HS6a.out.leB))
    have HS6 := hide (HS6a.out.on hal)
    go_upto_region 7 with fail
    generalize w6.alloc (.cells #[.int .i64 ta, .int .i64 tb, .int .i64 tc, .bool td, .bool te] 42) = w7 at hkA3 hkB HB6 HS6 ⊢
    clear hal HX5 HB5 HS5 hkA hkA2 hlA HS6a HB6a
    obtain ⟨a0, a1, a2, a3, a4⟩ := hkA3.c5
    obtain ⟨b0, b1, b2, b3, b4⟩ := hkB.c5
    go_wp2_with fail
    refine (num_any _ _).mono ?_
    rintro e w' ⟨rfl, rfl⟩
    go_wp2_with fail
    go_ret
    exact ⟨rfl, ⟨_, _, HS6.out, HGK.out⟩, HB6.out⟩
  by_cases h2 : xd = 2
  · subst h2
    clear h0 h1
    have HC1 := hide (fun W hW hM => cpre_any H gb cap n tl K (gf + 1) gf 8 8 m xc xp W hW hM HG.out.ok)
    have HC2 := hide (fun W hW hM => rcpre_any RH rgb rcap n rtl K (rf + 1) rf 8 64 m xc xp W hW hM HG.out)
    generalize ((trV n K 8 m xc xp).2.2 == 0 && !(trV n K 8 m xc xp).2.1) = pb at HC1 HC2
    have hpb : (pb == pb) = true := BEq.rfl
    have HSD := hide HS3.out.drew
    go_upto_region 9 with fail
    have xd1 : W1.drew.cell? ⟨P, 1, none⟩ = some (.int .i64 xc) := x1
    have xd4 : W1.drew.cell? ⟨P, 4, none⟩ = some (.int .i64 xp) := x4
    go_region_held3 (fun w' => w'.cell? ⟨P, 1, none⟩ = some (.int .i64 xc) ∧ w'.cell? ⟨P, 4, none⟩ = some (.int .i64 xp)) (first | (with_reducible exact ⟨xd1, xd4⟩) | (with_reducible exact ⟨hq1, hq4⟩) | (with_reducible exact ⟨hr1, hr4⟩) | (fail "no")) ((first
      | (go_at_call 19; refine (HC1.out _ HSD.out.cores HSD.out.mem).mono ?_; rintro e w2 ⟨rfl, hC4, hm4⟩; have hq1 := (hm4.cell (HSD.out.offC hP) (o := 1) xl).trans x1; have hq4 := (hm4.cell (HSD.out.offC hP) (o := 4) xl).trans x4)
      | (go_at_call 32; refine (num_any _ _).mono ?_; rintro e w' ⟨rfl, rfl⟩)
      | (go_at_call 59; refine (HC2.out _ (HSD.out.setCores hC4 hm4).rcores (HSD.out.setCores hC4 hm4).ref).mono ?_; rintro e w3 ⟨rfl, hC5, hm5⟩; have hr1 := (hm5.cell (HSD.out.offRC hP) (o := 1) (Nat.lt_of_lt_of_le xl hm4.size)).trans hq1; have hr4 := (hm5.cell (HSD.out.offRC hP) (o := 4) (Nat.lt_of_lt_of_le xl hm4.size)).trans hq4)))
    have HS6 := hide ((HSD.out.setCores hC4 hm4).setRcores hC5 hm5)
    have HB6 := hide ((HB3.out.drew.trans (hm4.below HSD.out.leB (fun k hk => (HSD.out.s1 k hk).1))).trans (hm5.below (Nat.le_trans HSD.out.leB hm4.size) HSD.out.geRC))
    clear hC4 hm4 hC5 hm5
    rename_i hHeld
    clear hHeld
    go_wp2_with fail
    go_ret
    exact ⟨rfl, ⟨_, _, HS6.out, HG.out.trK _ _ _ _⟩, HB6.out⟩
  by_cases h3 : xd = 3
  · subst h3
    clear h0 h1 h2
    have HSD := hide HS3.out.drew
    by_cases hkc : 0 ≤ xc ∧ xc < n
    · obtain ⟨i, rfl⟩ : ∃ i : Nat, xc = i := ⟨xc.toNat, by omega⟩
      have hin : i < n := by omega
      clear hkc
      have i0 : (0 : Int) ≤ (i : Int) := by omega
      have i1 : (i : Int) < (n : Int) := by omega
      have xzz := HS3.out.rcores.hd0
      have xyy := (HS3.out.rcores.cells i hin).2.2
      have hRl := HSD.out.rcores.hd.lt
      have hrl := HSD.out.rcores.ltb
      have HZ1 := hide (show ¬ RH = tl i from fun e => by have := HS3.out.s1 (tl i) (.inr (.inr ⟨i, hin, rfl⟩)); have := HS3.out.apart; omega)
      have HY1 := hide (show ¬ rgb = tl i from fun e => by have := HS3.out.s1 (tl i) (.inr (.inr ⟨i, hin, rfl⟩)); have := HS3.out.apart; have := HS3.out.s3 rgb (.inr (.inl rfl)); omega)
      have HZ2 := hide (show ¬ RH = rtl i from fun e => (HS3.out.rcores.off i hin).1 e.symm)
      have HY2 := hide (show ¬ rgb = rtl i from fun e => (HS3.out.rcores.off i hin).2 e.symm)
      have HP1 := hide (show ¬ P = tl i from fun e => HS3.out.offC hP (.inr (.inr ⟨i, hin, e⟩)))
      have HP2 := hide (show ¬ P = rtl i from fun e => HS3.out.offRC hP (.inr (.inr ⟨i, hin, e⟩)))
      have HC5 := hide (fun (W : World) (hC : CoresAt W H gb cap n tl (upd K i ⟨(K i).rt, (K i).sp, evictC (K i).c xt xy⟩)) (_ : Mod (· = tl i) W1.drew W) => hC)
      have HE1 := hide (fun W hW => cevict_in H gb cap n tl K i xt xy W hW hin)
      have HE2 := hide (fun W hW => revict6 (rtl i) xt xy (K i).c W hW (HG.out.good i hin))
      have HGE := hide (HG.out.upd_ i (HG.out.reg i hin) ((HG.out.good i hin).evict xt xy) (b := (K i).sp))
      have HRS := hide (fun W W' (hR : RCoresAt W RH rgb rcap n rtl K) (ht : Ref6At W' (rtl i) (evictC (K i).c xt xy)) (hm : Mod (· = rtl i) W W') => hR.setC i hin ht hm)
      generalize evictB (K i).c xt xy = eb at HE1 HE2
      have heb : (eb == eb) = true := BEq.rfl
      go_upto_region 11 with fail
      have xd1 : W1.drew.cell? ⟨P, 1, none⟩ = some (.int .i64 (i : Int)) := x1
      have xd5 : W1.drew.cell? ⟨P, 5, none⟩ = some (.int .i64 xt) := x5
      have xd6 : W1.drew.cell? ⟨P, 6, none⟩ = some (.int .i64 xy) := x6
      have xdzz : W1.drew.cell? ⟨RH, 0, none⟩ = some (.slice (some ⟨rgb, 0, none⟩) n rcap) := xzz
      have xdyy : W1.drew.cell? ⟨rgb, i * 3 + 2, none⟩ = some (.pointer (some ⟨rtl i, 0, none⟩)) := xyy
      go_region_held3 (fun w' => w'.cell? ⟨P, 1, none⟩ = some (.int .i64 (i : Int)) ∧ w'.cell? ⟨P, 5, none⟩ = some (.int .i64 xt) ∧ w'.cell? ⟨P, 6, none⟩ = some (.int .i64 xy) ∧ w'.cell? ⟨RH, 0, none⟩ = some (.slice (some ⟨rgb, 0, none⟩) n rcap) ∧ w'.cell? ⟨rgb, i * 3 + 2, none⟩ = some (.pointer (some ⟨rtl i, 0, none⟩))) (first | (with_reducible exact ⟨xd1, xd5, xd6, xdzz, xdyy⟩) | (with_reducible exact ⟨hq1, hq5, hq6, hqzz, hqyy⟩) | (with_reducible exact ⟨hr1, hr5, hr6, hrzz, hryy⟩) | (fail "no")) ((first
        | (go_at_call 21; refine (HE1.out _ HSD.out.cores).mono ?_; rintro e w2 ⟨rfl, hC4, hm4⟩; have hq1 := (hm4.cell HP1.out (o := 1) xl).trans x1; have hq5 := (hm4.cell HP1.out (o := 5) xl).trans x5; have hq6 := (hm4.cell HP1.out (o := 6) xl).trans x6; have hqzz := (hm4.cell HZ1.out (o := 0) hRl).trans xzz; have hqyy := (hm4.cell HY1.out (o := i * 3 + 2) hrl).trans xyy)
        | (go_at_call 32; refine (num_any _ _).mono ?_; rintro e w' ⟨rfl, rfl⟩)
        | (go_at_call 60; refine (rhas_yes RH rgb rcap n rtl K i _ (HSD.out.setCores (HC5.out _ hC4 hm4) (Mod.crT hin hm4)).rcores hin).mono ?_; rintro e w' ⟨rfl, rfl⟩)
        | (go_at_call 61; refine (HE2.out _ ((HSD.out.setCores hC4 (Mod.crT hin hm4)).rcores.tlb i hin)).mono ?_; rintro e w3 ⟨rfl, hT5, hm5⟩; have hr1 := (hm5.cell HP2.out (o := 1) (Nat.lt_of_lt_of_le xl hm4.size)).trans hq1; have hr5 := (hm5.cell HP2.out (o := 5) (Nat.lt_of_lt_of_le xl hm4.size)).trans hq5; have hr6 := (hm5.cell HP2.out (o := 6) (Nat.lt_of_lt_of_le xl hm4.size)).trans hq6; have hrzz := (hm5.cell HZ2.out (o := 0) (Nat.lt_of_lt_of_le hRl hm4.size)).trans hqzz; have hryy := (hm5.cell HY2.out (o := i * 3 + 2) (Nat.lt_of_lt_of_le hrl hm4.size)).trans hqyy)))
      have HS6 := hide ((HSD.out.setCores hC4 (Mod.crT hin hm4)).setRcores (HRS.out _ _ (HSD.out.setCores hC4 (Mod.crT hin hm4)).rcores hT5 hm5) (Mod.crT hin hm5))
      have HB6 := hide ((HB3.out.drew.trans (hm4.below HSD.out.leB (fun k hk => (HSD.out.s1 k (.inr (.inr ⟨i, hin, hk⟩))).1))).trans (hm5.below (Nat.le_trans HSD.out.leB hm4.size) (fun k hk => HSD.out.geRC k (.inr (.inr ⟨i, hin, hk⟩)))))
      clear hC4 hm4 hT5 hm5
      rename_i hHeld
      clear hHeld
      go_wp2_with fail
      go_ret
      exact ⟨rfl, ⟨_, _, HS6.out, HGE.out⟩, HB6.out⟩
    · have hkb : xc < 0 ∨ (n : Int) ≤ xc := by omega
      have HKB := hide hkb
      clear hkb hkc
      go_upto_region 11 with fail
      go_quiet ((first
        | (go_at_call 21; exact Calls.quiet_of_same ((cevict_bad H gb cap n tl K xc xt xy _ (HS3.out.cores.on (below_drewN (Below.refl _ _) _)) HKB.out).mono fun _ _ h => ⟨h.1, h.2.symm⟩))
        | (go_at_call 60; exact Calls.quiet_of_same ((rhas_no RH rgb rcap n rtl K xc _ (HS3.out.rcores.on (below_drewN (Below.refl _ _) _)) HKB.out).mono fun _ _ h => ⟨h.1, h.2.symm⟩))))
      rename_i nq
      have HS6 := hide (HS3.out.on (below_drewN (Below.refl _ _) nq))
      have HB6 := hide (HB3.out.trans (below_drewN (Below.refl B W1) nq))
      go_wp2_with fail
      go_ret
      exact ⟨rfl, ⟨_, _, HS6.out, HG.out⟩, HB6.out⟩
  by_cases h4 : xd = 4
  · subst h4
    clear h0 h1 h2 h3
    have HSD := hide HS3.out.drew
    by_cases hpg : xp = -1
    · subst hpg
      go_upto_region 13 with fail
      go_quiet (fail)
      rename_i nq
      have HS6 := hide (HS3.out.on (below_drewN (Below.refl _ _) nq))
      have HB6 := hide (HB3.out.trans (below_drewN (Below.refl B W1) nq))
      go_wp2_with fail
      go_ret
      exact ⟨rfl, ⟨_, _, HS6.out, HG.out⟩, HB6.out⟩
    · have dpg2 : (xp == -1) = false := beq_eq_false_iff_ne.2 hpg
      have HC1 := hide (fun W hW => cdropPage_any H gb cap n tl K xs xp W hW)
      rw [isPage_R7 xs xp hpg] at HC1
      have HC2 := hide (fun W hW => rcdrop_any RH rgb rcap n rtl K xs xp W hW HG.out)
      generalize dropC K (isDropR false xs xp) n = dc at HC1 HC2
      have hdc : ((dc : Int) == (dc : Int)) = true := BEq.rfl
      clear hpg
      go_upto_region 13 with fail
      have xd3 : W1.drew.cell? ⟨P, 3, none⟩ = some (.int .i64 xs) := x3
      have xd4 : W1.drew.cell? ⟨P, 4, none⟩ = some (.int .i64 xp) := x4
      go_region_held3 (fun w' => w'.cell? ⟨P, 3, none⟩ = some (.int .i64 xs) ∧ w'.cell? ⟨P, 4, none⟩ = some (.int .i64 xp)) (first | (with_reducible exact ⟨xd3, xd4⟩) | (with_reducible exact ⟨hq3, hq4⟩) | (with_reducible exact ⟨hr3, hr4⟩) | (fail "no")) ((first
        | (go_at_call 22; refine (HC1.out _ HSD.out.cores).mono ?_; rintro e w2 ⟨rfl, hC4, hm4⟩; have hq3 := (hm4.cell (HSD.out.offC hP) (o := 3) xl).trans x3; have hq4 := (hm4.cell (HSD.out.offC hP) (o := 4) xl).trans x4)
        | (go_at_call 32; refine (num_any _ _).mono ?_; rintro e w' ⟨rfl, rfl⟩)
        | (go_at_call 62; refine (HC2.out _ (HSD.out.setCores hC4 hm4).rcores).mono ?_; rintro e w3 ⟨rfl, hC5, hm5⟩; have hr3 := (hm5.cell (HSD.out.offRC hP) (o := 3) (Nat.lt_of_lt_of_le xl hm4.size)).trans hq3; have hr4 := (hm5.cell (HSD.out.offRC hP) (o := 4) (Nat.lt_of_lt_of_le xl hm4.size)).trans hq4)))
      have HS6 := hide ((HSD.out.setCores hC4 hm4).setRcores hC5 hm5)
      have HB6 := hide ((HB3.out.drew.trans (hm4.below HSD.out.leB (fun k hk => (HSD.out.s1 k hk).1))).trans (hm5.below (Nat.le_trans HSD.out.leB hm4.size) HSD.out.geRC))
      clear hC4 hm4 hC5 hm5
      rename_i hHeld
      clear hHeld
      go_wp2_with fail
      go_ret
      exact ⟨rfl, ⟨_, _, HS6.out, HG.out.dropK _ _⟩, HB6.out⟩
  by_cases h5 : xd = 5
  · subst h5
    clear h0 h1 h2 h3 h4
    have HC1 := hide (fun W hW => cdropSpace_any H gb cap n tl K xs W hW)
    rw [isSpace_R7 xs] at HC1
    have HC2 := hide (fun W hW => rcdrop_any RH rgb rcap n rtl K xs (-1) W hW HG.out)
    generalize dropC K (isDropR false xs (-1)) n = dc at HC1 HC2
    have hdc : ((dc : Int) == (dc : Int)) = true := BEq.rfl
    have HSD := hide HS3.out.drew
    go_upto_region 15 with fail
    have xd3 : W1.drew.cell? ⟨P, 3, none⟩ = some (.int .i64 xs) := x3
    go_region_held3 (fun w' => w'.cell? ⟨P, 3, none⟩ = some (.int .i64 xs)) (first | (with_reducible exact xd3) | (with_reducible exact hq3) | (with_reducible exact hr3) | (fail "no")) ((first
      | (go_at_call 25; refine (HC1.out _ HSD.out.cores).mono ?_; rintro e w2 ⟨rfl, hC4, hm4⟩; have hq3 := (hm4.cell (HSD.out.offC hP) (o := 3) xl).trans x3)
      | (go_at_call 32; refine (num_any _ _).mono ?_; rintro e w' ⟨rfl, rfl⟩)
      | (go_at_call 62; refine (HC2.out _ (HSD.out.setCores hC4 hm4).rcores).mono ?_; rintro e w3 ⟨rfl, hC5, hm5⟩; have hr3 := (hm5.cell (HSD.out.offRC hP) (o := 3) (Nat.lt_of_lt_of_le xl hm4.size)).trans hq3)))
    have HS6 := hide ((HSD.out.setCores hC4 hm4).setRcores hC5 hm5)
    have HB6 := hide ((HB3.out.drew.trans (hm4.below HSD.out.leB (fun k hk => (HSD.out.s1 k hk).1))).trans (hm5.below (Nat.le_trans HSD.out.leB hm4.size) HSD.out.geRC))
    clear hC4 hm4 hC5 hm5
    rename_i hHeld
    clear hHeld
    go_wp2_with fail
    go_ret
    exact ⟨rfl, ⟨_, _, HS6.out, HG.out.dropK _ _⟩, HB6.out⟩
  by_cases h6 : xd = 6
  · subst h6
    clear h0 h1 h2 h3 h4 h5
    have HC1 := hide (fun W hW => pstore_any (gf + 1) gf 8 8 m xa xv W hW HU.out.1.1 HU.out.2)
    have HC2 := hide (fun W hW => rstore_any (rf + 1) rf 8 64 m xa xv W hW HU.out.1.1 HU.out.1.2 HU.out.2)
    generalize adr 8 xa = ad at HC1 HC2
    have had : (ad == ad) = true := BEq.rfl
    have HSD := hide HS3.out.drew
    go_upto_region 17 with fail
    have xd7 : W1.drew.cell? ⟨P, 7, none⟩ = some (.int .u64 xa) := x7
    have xd8 : W1.drew.cell? ⟨P, 8, none⟩ = some (.int .u64 xv) := x8
    go_region_held3 (fun w' => w'.cell? ⟨P, 7, none⟩ = some (.int .u64 xa) ∧ w'.cell? ⟨P, 8, none⟩ = some (.int .u64 xv)) (first | (with_reducible exact ⟨xd7, xd8⟩) | (with_reducible exact ⟨hq7, hq8⟩) | (with_reducible exact ⟨hr7, hr8⟩) | (fail "no")) ((first
      | (go_at_call 16; refine (HC1.out _ HSD.out.mem).mono ?_; rintro e w2 ⟨rfl, hM4, hm4⟩; have hq7 := (hm4.cell (HSD.out.offM hP) (o := 7) xl).trans x7; have hq8 := (hm4.cell (HSD.out.offM hP) (o := 8) xl).trans x8)
      | (go_at_call 32; refine (num_any _ _).mono ?_; rintro e w' ⟨rfl, rfl⟩)
      | (go_at_call 33; refine (HC2.out _ (HSD.out.setMem hM4 hm4).ref).mono ?_; rintro e w3 ⟨rfl, hM5, hm5⟩; have hr7 := (hm5.cell (HSD.out.offF hP) (o := 7) (Nat.lt_of_lt_of_le xl hm4.size)).trans hq7; have hr8 := (hm5.cell (HSD.out.offF hP) (o := 8) (Nat.lt_of_lt_of_le xl hm4.size)).trans hq8)))
    have HS6 := hide ((HSD.out.setMem hM4 hm4).setRef hM5 hm5)
    have HB6 := hide ((HB3.out.drew.trans (hm4.below HSD.out.leB (fun k hk => by have := HSD.out.s4; have hk' : k = gf := hk; omega))).trans (hm5.below (Nat.le_trans HSD.out.leB hm4.size) (fun k hk => by have := HSD.out.apart; have := HSD.out.s4; have hk' : k = rf := hk; omega)))
    clear hM4 hm4 hM5 hm5
    rename_i hHeld
    clear hHeld
    go_wp2_with fail
    go_ret
    exact ⟨rfl, ⟨_, _, HS6.out, HG.out⟩, HB6.out⟩
  go_wp2_with fail
  refine (alike7_any H gb cap n tl RH rgb rcap rtl K _ HS3.out.cores HS3.out.rcores HG.out).mono ?_
  rintro e w4 ⟨rfl, hb⟩
  have HS6 := hide (HS3.out.on hb)
  have HB6 := hide (HB3.out.trans (hb.mono HS3.out.leB))
  clear hb
  go_wp2_with fail
  go_ret
  exact ⟨rfl, ⟨_, _, HS6.out, HG.out⟩, HB6.out⟩
end
end Go.Proofs.Ytlfenakabedmfaa
