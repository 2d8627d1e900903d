/- The walk of the statement of chapter 7: CoresWalk. -/
import Derived.Test.YtjnnimdgmcpjoaaLaw7f
import Derived.Test.YtjnnimdgmcpjoaaActs7
import Derived.Laws.BitsLemmas
namespace Go.Proofs.Ytjnnimdgmcpjoaa
open Go.RowKit Go.Shelf
theorem i64_and1 (n : Int) : bits .and .i64 n 1 = n % 2 := by
  have h1 : (BitVec.ofInt 64 1).toNat = 2 ^ 1 - 1 := by decide
  have key : (BitVec.ofInt 64 n &&& BitVec.ofInt 64 1).toNat = (n % ((2 ^ 64 : Nat) : Int)).toNat % 2 ^ 1 := by
    rw [BitVec.toNat_and, BitVec.toNat_ofInt, h1, Nat.and_two_pow_sub_one_eq_mod]
  show IntKind.i64.wrap ((BitVec.ofInt 64 n &&& BitVec.ofInt 64 1).toNat : Nat) = n % 2
  rw [key, IntKind.wrap_i64]
  omega
theorem mem_start : storeV 8 (storeV 8 (fun _ => 0) 0 257) 64 513 0 = 257 ∧ storeV 8 (storeV 8 (fun _ => 0) 0 257) 64 513 8 = 513 := ⟨rfl, rfl⟩
set_option maxRecDepth 100000 in
set_option maxHeartbeats 4000000 in
theorem law_CoresWalk (w : World) (A : Option Addr) (n ca : Nat) (xs : Nat → Act7) (hA : Acts7 w A n xs) (hn : n ≤ 9223372036854775807) :
    Calls Try.prog 4 #[.slice A n ca] w fun e w' => e = .returned (.bool true) ∧ Below w.heap.size w w' := by
  have HA := hide hA
  clear hA
  by_cases h60 : 60 < (n : Int)
  · go_enter Try.func4, Try.ntmps4
    go_wp2_with fail
    refine (awake7 _).mono ?_
    rintro e w1 ⟨rfl, hb⟩
    have HB := hide hb
    clear hb
    go_wp2_with fail
    go_ret
    exact ⟨rfl, HB.out⟩
  have hdn : decide (60 < (n : Int)) = false := decide_eq_false h60
  have hnn : (n : Int) ≤ 60 := by omega
  clear h60 hdn
  go_enter Try.func4, Try.ntmps4
  go_wp2_with fail
  clear hnn
  refine (cnew_in 2 _ (by decide) (by decide)).mono ?_
  rintro e w1 ⟨gb, cap, tl, rfl, hC, hS, hB⟩
  generalize hH : w.heap.size = H at *
  have HG := hide hH
  have HB := hide hB
  have HC := hide hC
  have HS := hide hS
  have hz1 := hB.size
  rw [hH] at hz1
  clear hH hB hC hS
  go_wp2_with fail
  refine (new_in 8 _ (by decide) (by decide)).mono ?_
  rintro e w2 ⟨rfl, hM, hb⟩
  generalize hgf : w1.heap.size = gf at *
  replace HC := hide (HC.out.on (hgf ▸ hb))
  replace HB := hide (HB.out.trans (hb.mono hz1))
  have HM := hide hM
  clear hb hM hgf
  go_wp2_with fail
  refine (pstore_any (gf + 1) gf 8 8 _ 0 257 _ HM.out (by decide) (by decide)).mono ?_
  rintro e w4 ⟨rfl, hM, hm⟩
  replace HC := hide (HC.out.store HM.out hm)
  replace HB := hide (below_mod HB.out (Nat.le_of_eq HG.out.symm) hm (fun k hk => by have hk' : k = gf := hk; omega))
  replace HM := hide hM
  clear hM hm
  go_wp2_with fail
  refine (pstore_any (gf + 1) gf 8 8 _ 64 513 _ HM.out (by decide) (by decide)).mono ?_
  rintro e w5 ⟨rfl, hM, hm⟩
  replace HC := hide (HC.out.store HM.out hm)
  replace HB := hide (below_mod HB.out (Nat.le_of_eq HG.out.symm) hm (fun k hk => by have hk' : k = gf := hk; omega))
  replace HM := hide hM
  have HM0 := hide mem_start
  clear hM hm
  generalize storeV 8 (storeV 8 (fun _ => 0) 0 257) 64 513 = m0 at HM HM0
  go_wp2_with fail
  refine (cset_yes H gb cap 2 tl _ 0 0 1 _ HC.out (by decide) (.inr ⟨by decide, by decide, by decide⟩)).mono ?_
  rintro e w3 ⟨rfl, hC, hm⟩
  replace HM := hide (HM.out.crS HC.out (Mod.cr hm))
  replace HB := hide (below_mod HB.out (Nat.le_of_eq HG.out.symm) hm (fun k hk => HS.out k (.inr (.inl hk))))
  replace HC := hide hC
  clear hC hm
  go_wp2_with fail
  refine (cset_yes H gb cap 2 tl _ 1 0 1 _ HC.out (by decide) (.inr ⟨by decide, by decide, by decide⟩)).mono ?_
  rintro e w6 ⟨rfl, hC, hm⟩
  replace HM := hide (HM.out.crS HC.out (Mod.cr hm))
  replace HB := hide (below_mod HB.out (Nat.le_of_eq HG.out.symm) hm (fun k hk => HS.out k (.inr (.inl hk))))
  have HK : Hid (FreshK m0 (upd (upd (fun _ => core0) 0 ⟨0, 1, (core0).c⟩) 1 ⟨0, 1, (upd (fun _ => core0) 0 ⟨0, 1, (core0).c⟩ 1).c⟩)) := hide (fun k hk => by
    have : k = 0 ∨ k = 1 := by omega
    rcases this with rfl | rfl
    · exact ⟨rfl, rfl, FreshC.empty _⟩
    · exact ⟨rfl, rfl, FreshC.empty _⟩)
  replace HC := hide hC
  clear hC hm
  generalize upd (upd (fun _ => core0) 0 ⟨0, 1, (core0).c⟩) 1 ⟨0, 1, (upd (fun _ => core0) 0 ⟨0, 1, (core0).c⟩ 1).c⟩ = K0 at HC HK
  go_wp2_with fail
  go_loopw [7, 8, 9, 10, 11, 12, 13, 14] (fun i _ _ _ _ _ _ _ wr => ∃ (i' : Nat) (K : Nat → Core) (m : Nat → Int), i' ≤ n ∧ i = .int .i64 i' ∧ (m 0 = 257 ∧ m 8 = 513) ∧ FreshK m K ∧ CoresAt wr H gb cap 2 tl K ∧ MemAt wr (gf + 1) gf 8 8 m ∧ Below H w wr) (fun i _ _ _ _ _ _ _ _ => n - (intOf i).toNat)
  case atStart => exact ⟨0, K0, m0, Nat.zero_le _, rfl, HM0.out, HK.out, HC.out, HM.out, HB.out⟩
  case round =>
    obtain ⟨i, K, m, hi, rfl, hm0, hK, hC, hM, hB⟩ := hrel
    have H0 := hide hm0
    have HK1 := hide hK
    have HC1 := hide hC
    have HM1 := hide hM
    have HB1 := hide hB
    clear hm0 hK hC hM hB HC HM HB HK HM0
    by_cases hlt : i < n
    · obtain ⟨ba, oa, rfl, hba, hca⟩ := HA.out.resolve_left (by omega)
      have hbg : ba < H := by have := HG.out; omega
      have hX0 := hca i hlt
      obtain ⟨X, hXe⟩ : ∃ X, xs i = X := ⟨_, rfl⟩
      rw [hXe] at hX0
      have HXF := hide (fun (W : World) (hb : Below H w W) => hX0.keep (w' := W) (fun j => hb.cell (p := ⟨ba, j, none⟩) hbg))
      obtain ⟨ad, ac, ar, asp, ap, at_, ay, aa, av⟩ := X
      have i0 : (0 : Int) ≤ (i : Int) := by omega
      have i1 : (i : Int) < (n : Int) := by omega
      have qp := low_bd ap (n := 8) (by omega)
      have lp := hide (fun W => low_any ap 8 W (by omega) (by omega))
      obtain ⟨p, hp⟩ : ∃ p : Nat, lowV ap 8 = p := ⟨(lowV ap 8).toNat, by omega⟩
      rw [hp] at qp lp
      have p1 : p < 8 := by omega
      obtain ⟨k, hk⟩ : ∃ k : Nat, bits .and .i64 ac 1 = k := ⟨(ac % 2).toNat, by rw [i64_and1]; omega⟩
      have hk2 : k < 2 := by rw [i64_and1] at hk; omega
      have qq := low_bd (IntKind.i64.wrap (at_ + ap)) (n := 8) (by omega)
      have lq := hide (fun W => low_any (IntKind.i64.wrap (at_ + ap)) 8 W (by omega) (by omega))
      obtain ⟨q, hq⟩ : ∃ p : Nat, lowV (IntKind.i64.wrap (at_ + ap)) 8 = p := ⟨(lowV (IntKind.i64.wrap (at_ + ap)) 8).toNat, by omega⟩
      rw [hq] at qq lq
      have q1 : q < 8 := by omega
      clear hp qp hca hba hXe hq qq hX0
      obtain ⟨x0, x1, x2, x3, x4, x5, x6, x7, x8, b7, b8⟩ := HXF.out _ HB1.out
      dsimp only at x0 x1 x2 x3 x4 x5 x6 x7 x8 b7 b8
      go_wp2_with fail
      refine (lp.out _).mono ?_
      rintro e w' ⟨rfl, rfl⟩
      clear lp
      go_upto_if 66 with fail
      go_cut [] from 49 to 188 (fun wx => ∃ (K : Nat → Core) (m : Nat → Int), (m 0 = 257 ∧ m 8 = 513) ∧ FreshK m K ∧ CoresAt wx H gb cap 2 tl K ∧ MemAt wx (gf + 1) gf 8 8 m ∧ Below H w wx)
      case first =>
        by_cases hd : ad = 6
        · subst hd
          go_wp2_with fail
          refine (pstore_any (gf + 1) gf 8 8 _ (128 + 8 * (p : Int)) av _ HM1.out (by omega) b8).mono ?_
          rintro e w7 ⟨rfl, hM, hm⟩
          rw [show 128 + 8 * (p : Int) = 8 * ((16 + p : Nat) : Int) by omega, storeV_at _ _ (by omega)] at hM
          have HC2 := hide (HC1.out.store HM1.out hm)
          have HB2 := hide (below_mod HB1.out (Nat.le_of_eq HG.out.symm) hm (fun k hk => by have hk' : k = gf := hk; omega))
          have HM2 := hide hM
          clear hM hm x0 x1 x2 x3 x4 x5 x6 x7 x8 HC1 HM1 HB1
          go_wp2_with fail
          refine (cdropPage_any H gb cap 2 tl K 1 p _ HC2.out).mono ?_
          rintro e w8 ⟨rfl, hC, hm⟩
          have HM3 := hide (HM2.out.crS HC2.out hm)
          have HB3 := hide (below_mod HB2.out (Nat.le_of_eq HG.out.symm) hm HS.out)
          have HC3 := hide hC
          have HF := hide (HK1.out.store H0.out.1 H0.out.2 p1 av)
          clear hC hm HC2 HM2 HB2
          go_wp2_with fail
          go_meet
          case rel => exact ⟨_, _, ⟨(upd_ne _ _ (by omega)).trans H0.out.1, (upd_ne _ _ (by omega)).trans H0.out.2⟩, HF.out, HC3.out, HM3.out, HB3.out⟩
        · have hdf : (ad == 6) = false := beq_eq_false_iff_ne.2 hd
          go_wp2_with fail
          go_meet
          case rel => exact ⟨K, m, H0.out, HK1.out, HC1.out, HM1.out, HB1.out⟩
      case rest =>
        clear x0 x1 x2 x3 x4 x5 x6 x7 x8 b7 b8 H0 HK1 HC1 HM1 HB1
        obtain ⟨K, m, hm0, hK, hC, hM, hB⟩ := hcut
        have H0 := hide hm0
        have HK1 := hide hK
        have HC1 := hide hC
        have HM1 := hide hM
        have HB1 := hide hB
        clear hm0 hK hC hM hB
        obtain ⟨x0, x1, x2, x3, x4, x5, x6, x7, x8, b7, b8⟩ := HXF.out _ HB1.out
        dsimp only at x0 x1 x2 x3 x4 x5 x6 x7 x8 b7 b8
        go_upto_if 86 with fail
        go_cut [] from 49 to 188 (fun wx => ∃ (K : Nat → Core) (m : Nat → Int), (m 0 = 257 ∧ m 8 = 513) ∧ FreshK m K ∧ CoresAt wx H gb cap 2 tl K ∧ MemAt wx (gf + 1) gf 8 8 m ∧ Below H w wx)
        case first =>
          by_cases hd : ad = 2
          · subst hd
            go_wp2_with fail
            refine (cpre_any H gb cap 2 tl K (gf + 1) gf 8 8 m k p _ HC1.out HM1.out HK1.out.ok).mono ?_
            rintro e w8 ⟨rfl, hC, hm⟩
            have HM3 := hide (HM1.out.crS HC1.out hm)
            have HB3 := hide (below_mod HB1.out (Nat.le_of_eq HG.out.symm) hm HS.out)
            have HC3 := hide hC
            have HF := hide (HK1.out.trans hk2 p1).1
            clear hC hm HC1 HM1 HB1 x0 x1 x2 x3 x4 x5 x6 x7 x8
            go_wp2_with fail
            go_meet
            case rel => exact ⟨_, m, H0.out, HF.out, HC3.out, HM3.out, HB3.out⟩
          · have hdf : (ad == 2) = false := beq_eq_false_iff_ne.2 hd
            go_wp2_with fail
            go_meet
            case rel => exact ⟨K, m, H0.out, HK1.out, HC1.out, HM1.out, HB1.out⟩
        case rest =>
          clear x0 x1 x2 x3 x4 x5 x6 x7 x8 b7 b8 H0 HK1 HC1 HM1 HB1
          obtain ⟨K, m, hm0, hK, hC, hM, hB⟩ := hcut
          have H0 := hide hm0
          have HK1 := hide hK
          have HC1 := hide hC
          have HM1 := hide hM
          have HB1 := hide hB
          clear hm0 hK hC hM hB
          obtain ⟨x0, x1, x2, x3, x4, x5, x6, x7, x8, b7, b8⟩ := HXF.out _ HB1.out
          dsimp only at x0 x1 x2 x3 x4 x5 x6 x7 x8 b7 b8
          obtain ⟨wq, rfl⟩ : ∃ wq : World, wq = wc := ⟨_, rfl⟩
          go_upto_if 102 with fail
          go_cut [] from 49 to 188 (fun wx => ∃ (K : Nat → Core) (m : Nat → Int), (m 0 = 257 ∧ m 8 = 513) ∧ FreshK m K ∧ CoresAt wx H gb cap 2 tl K ∧ MemAt wx (gf + 1) gf 8 8 m ∧ Below H w wx)
          case first =>
            by_cases hd : ad = 3
            · subst hd
              have hbS : ¬ crS H gb 2 tl ba := fun e => by have := HS.out ba e; omega
              have HBsz : H ≤ wq.heap.size := by rw [← HG.out]; exact HB1.out.size
              have HEV := hide (fun w => cevict_in H gb cap 2 tl K k at_ ay w)
              have HCd := hide (show CoresAt wq.drew H gb cap 2 tl K from HC1.out.same (fun _ _ => rfl))
              go_upto_region 21 with fail
              go_region_held3 (fun w' => w'.cell? ⟨ba, oa + i * 9 + 1, none⟩ = some (.int .i64 ac) ∧ w'.cell? ⟨ba, oa + i * 9 + 5, none⟩ = some (.int .i64 at_) ∧ w'.cell? ⟨ba, oa + i * 9 + 6, none⟩ = some (.int .i64 ay) ∧ Mod (crS H gb 2 tl) wq w') (first | (with_reducible assumption) | exact ⟨x1, x5, x6, (Mod.refl _ wq).drew⟩) ((go_at_call 21; refine (HEV.out _ HCd.out hk2).mono ?_; rintro e w8 ⟨rfl, hC, hm⟩; have hm8 := Mod.crT (g := H) (gb := gb) hk2 (Mod.of_drew hm); have hS8 := And.intro ((hm8.cell hbS (Nat.lt_of_lt_of_le hbg HBsz)).trans x1) (And.intro ((hm8.cell hbS (Nat.lt_of_lt_of_le hbg HBsz)).trans x5) (And.intro ((hm8.cell hbS (Nat.lt_of_lt_of_le hbg HBsz)).trans x6) hm8))))
              have HM3 := hide (HM1.out.crS HC1.out hm8)
              have HB3 := hide (below_mod HB1.out (Nat.le_of_eq HG.out.symm) hm8 HS.out)
              have HC3 := hide hC
              obtain ⟨e1, e2, e3⟩ := HK1.out k hk2
              have HF := hide (HK1.out.upd_ k (e3.evict at_ ay))
              rw [e1, e2] at HC3
              clear hC hm hm8 hS8 HC1 HM1 HB1 x0 x1 x2 x3 x4 x5 x6 x7 x8 HEV HCd e1 e2 e3
              rename_i hHeld
              clear hHeld
              go_wp2
              go_meet
              case rel => exact ⟨_, m, H0.out, HF.out, HC3.out, HM3.out, HB3.out⟩
            · have hdf : (ad == 3) = false := beq_eq_false_iff_ne.2 hd
              go_wp2_with fail
              go_meet
              case rel => exact ⟨K, m, H0.out, HK1.out, HC1.out, HM1.out, HB1.out⟩
          case rest =>
            clear x0 x1 x2 x3 x4 x5 x6 x7 x8 b7 b8 H0 HK1 HC1 HM1 HB1
            obtain ⟨K, m, hm0, hK, hC, hM, hB⟩ := hcut
            have H0 := hide hm0
            have HK1 := hide hK
            have HC1 := hide hC
            have HM1 := hide hM
            have HB1 := hide hB
            clear hm0 hK hC hM hB
            obtain ⟨x0, x1, x2, x3, x4, x5, x6, x7, x8, b7, b8⟩ := HXF.out _ HB1.out
            dsimp only at x0 x1 x2 x3 x4 x5 x6 x7 x8 b7 b8
            go_upto_region 22 with fail
            go_quiet ((go_at_call 18; exact Calls.quiet_of_same ((lq.out _).mono fun _ _ h => ⟨h.1, h.2.symm⟩)))
            rename_i nq
            have hbq := below_drewN (Below.refl wc.heap.size wc) nq
            replace HC1 := hide (HC1.out.on hbq)
            replace HM1 := hide (HM1.out.on hbq)
            replace HB1 := hide (below_drewN HB1.out nq)
            clear x0 x1 x2 x3 x4 x5 x6 x7 x8 b7 b8 hbq lq
            obtain ⟨x0, x1, x2, x3, x4, x5, x6, x7, x8, b7, b8⟩ := HXF.out _ HB1.out
            dsimp only at x0 x1 x2 x3 x4 x5 x6 x7 x8 b7 b8
            obtain ⟨hF, hiff, hval⟩ := HK1.out.trans hk2 q1
            have HT := hide (fun w => ctrans_any H gb cap 2 tl K (gf + 1) gf 8 8 m k q w)
            have HF := hide hF
            obtain ⟨V, hV⟩ : ∃ V, trV 2 K 8 m k q = V := ⟨_, rfl⟩
            rw [hV] at HT hiff hval
            obtain ⟨V1, V2, V3⟩ := V
            dsimp only at hiff hval HT
            have HW := hide (fun w => wwalk_any (gf + 1) gf 8 8 m 0 q w)
            clear hV hF
            by_cases hw : wlkE 8 m 0 q = 0
            · obtain rfl : V3 = 0 := hiff.2 hw
              obtain rfl := hval hw
              obtain ⟨hwc, _⟩ := wlk_good 8 m 0 q hw
              rw [hwc, hw] at HW
              unfold wlkT Tr.row at HT
              dsimp only at HT
              generalize leafX 8 m 0 q / 256 % 64 = f at HT HW
              generalize bitB (leafX 8 m 0 q) 2 = rb at HT HW
              generalize bitB (leafX 8 m 0 q) 3 = wb at HT HW
              clear hwc hiff hval hw
              go_wp2_with fail
              refine (HT.out _ HC1.out HM1.out HK1.out.ok).mono ?_
              rintro e w8 ⟨rfl, hC, hm⟩
              have HM3 := hide (HM1.out.crS HC1.out hm)
              have HB3 := hide (below_mod HB1.out (Nat.le_of_eq HG.out.symm) hm HS.out)
              have hba := (Below.refl _ w8).alloc (Nat.le_refl _) (.cells #[.int .i64 1, .int .i64 q, .int .i64 f, .bool rb, .bool wb] 42)
              have hkx := Blk.new w8 42 #[.int .i64 1, .int .i64 q, .int .i64 f, .bool rb, .bool wb]
              have HC4 := hide (hC.on hba)
              have HM4 := hide (HM3.out.on hba)
              have HB4 := hide (HB3.out.trans (hba.mono (Nat.le_trans (Nat.le_of_eq HG.out.symm) HB3.out.size)))
              clear hC hm hba HC1 HM1 HB1 HM3 HB3 x0 x1 x2 x3 x4 x5 x6 x7 x8 HT
              go_upto_region 24 with fail
              generalize w8.alloc (.cells #[.int .i64 1, .int .i64 q, .int .i64 f, .bool rb, .bool wb] 42) = w9 at *
              generalize w8.heap.size = G1 at *
              go_wp2_with fail
              refine (HW.out _ HM4.out).mono ?_
              rintro e wa ⟨rfl, hb⟩
              have hk2' := blk_below hkx hb
              have HC5 := hide (HC4.out.on hb)
              have HM5 := hide (HM4.out.on hb)
              have HB5 := hide (HB4.out.trans (hb.mono (Nat.le_trans (Nat.le_of_eq HG.out.symm) HB4.out.size)))
              have hl5 := hk2'.lt
              have hbb := (Below.refl _ wa).alloc (Nat.le_refl _) (.cells #[.bool true, .bool true, .bool rb, .bool wb, .int .i64 f] 50)
              have hke := Blk.new wa 50 #[.bool true, .bool true, .bool rb, .bool wb, .int .i64 f]
              have hk3 := hk2'.below hbb hl5
              have HC6 := hide (HC5.out.on hbb)
              have HM6 := hide (HM5.out.on hbb)
              have HB6 := hide (HB5.out.trans (hbb.mono (Nat.le_trans (Nat.le_of_eq HG.out.symm) HB5.out.size)))
              clear hb hbb HC4 HM4 HB4 HC5 HM5 HB5 hk2' hkx HW
              obtain ⟨d0, d1, d2, d3, d4⟩ := hk3.c5
              obtain ⟨e0, e1, e2, e3, e4⟩ := hke.c5
              go_wp2_with fail
              go_roundw
              case rel => exact ⟨i + 1, _, m, by omega, by simp, H0.out, HF.out, HC6.out, HM6.out, HB6.out⟩
              case measure => simp [intOf]; omega
            · have hV3 : (V3 == 0) = false := beq_eq_false_iff_ne.2 (fun h => hw (hiff.1 h))
              have hE : (wlkE 8 m 0 q == 0) = false := beq_eq_false_iff_ne.2 hw
              obtain ⟨y0, y1, y2, y3, y4, hwc⟩ : ∃ (a b c d : Bool) (f : Int), wlkC 8 m 0 q = #[.bool a, .bool b, .bool c, .bool d, .int .i64 f] := by
                unfold wlkC
                split
                · exact entC_lit _ _ _
                · exact ⟨_, _, _, _, _, rfl⟩
              rw [hwc] at HW
              obtain ⟨t0, t1, t2, t3, t4⟩ := V1
              unfold Tr.row at HT
              dsimp only at HT
              generalize wlkE 8 m 0 q = E at HW hE
              clear hwc hiff hval hw
              go_wp2_with fail
              refine (HT.out _ HC1.out HM1.out HK1.out.ok).mono ?_
              rintro e w8 ⟨rfl, hC, hm⟩
              have HM3 := hide (HM1.out.crS HC1.out hm)
              have HB3 := hide (below_mod HB1.out (Nat.le_of_eq HG.out.symm) hm HS.out)
              have hba := (Below.refl _ w8).alloc (Nat.le_refl _) (.cells #[.int .i64 t0, .int .i64 t1, .int .i64 t2, .bool t3, .bool t4] 42)
              have HC4 := hide (hC.on hba)
              have HM4 := hide (HM3.out.on hba)
              have HB4 := hide (HB3.out.trans (hba.mono (Nat.le_trans (Nat.le_of_eq HG.out.symm) HB3.out.size)))
              clear hC hm hba HC1 HM1 HB1 HM3 HB3 x0 x1 x2 x3 x4 x5 x6 x7 x8 HT
              go_upto_region 24 with fail
              generalize w8.alloc (.cells #[.int .i64 t0, .int .i64 t1, .int .i64 t2, .bool t3, .bool t4] 42) = w9 at *
              go_wp2_with fail
              refine (HW.out _ HM4.out).mono ?_
              rintro e wa ⟨rfl, hb⟩
              have HC5 := hide (HC4.out.on hb)
              have HM5 := hide (HM4.out.on hb)
              have HB5 := hide (HB4.out.trans (hb.mono (Nat.le_trans (Nat.le_of_eq HG.out.symm) HB4.out.size)))
              have hbb := (Below.refl _ wa).alloc (Nat.le_refl _) (.cells #[.bool y0, .bool y1, .bool y2, .bool y3, .int .i64 y4] 50)
              have HC6 := hide (HC5.out.on hbb)
              have HM6 := hide (HM5.out.on hbb)
              have HB6 := hide (HB5.out.trans (hbb.mono (Nat.le_trans (Nat.le_of_eq HG.out.symm) HB5.out.size)))
              clear hb hbb HC4 HM4 HB4 HC5 HM5 HB5 HW
              go_wp2_with fail
              go_roundw
              case rel => exact ⟨i + 1, _, m, by omega, by simp, H0.out, HF.out, HC6.out, HM6.out, HB6.out⟩
              case measure => simp [intOf]; omega
    · go_wp2_with fail
      refine (awake7 _).mono ?_
      rintro e w6 ⟨rfl, hb⟩
      have HB5 := hide (HB1.out.trans (hb.mono (Nat.le_trans (Nat.le_of_eq HG.out.symm) HB1.out.size)))
      clear hb
      go_wp2_with fail
      go_ret
      exact ⟨rfl, HG.out ▸ HB5.out⟩
end Go.Proofs.Ytjnnimdgmcpjoaa
