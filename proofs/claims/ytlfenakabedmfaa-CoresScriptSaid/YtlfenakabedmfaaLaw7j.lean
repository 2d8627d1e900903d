/- Chapter 7: the walk of CoresScript. -/
import Derived.Test.YtlfenakabedmfaaDone7
import Derived.Test.YtlfenakabedmfaaActs7
import Derived.Test.YtlfenakabedmfaaU64s
namespace Go.Proofs.Ytlfenakabedmfaa
open Go.RowKit Go.Shelf
set_option maxRecDepth 100000 in
set_option maxHeartbeats 8000000 in
theorem law_CoresScript (w : World) (nc : Int) (A : Option Addr) (n ca : Nat) (xs : Nat → Int) (hA : U64At w A n xs) (hn : n ≤ 9223372036854775807) (A2 : Option Addr) (n2 ca2 : Nat) (ys : Nat → Act7) (hA2 : Acts7 w A2 n2 ys) (hn2 : n2 ≤ 9223372036854775807) :
    Calls Try.prog 9 #[.int .i64 nc, .slice A n ca, .slice A2 n2 ca2] w fun e w' => e = .returned (.bool true) ∧ Below w.heap.size w w' := by
  have HA := hide hA
  have HA2 := hide hA2
  clear hA hA2
  by_cases h1 : 120 < n2
  · go_enter Try.func9, Try.ntmps9
    go_wp2_with fail
    refine (awake7 _).mono ?_
    rintro e w1 ⟨rfl, hb⟩
    have HB := hide hb
    clear hb
    go_wp2_with fail
    go_ret
    exact ⟨rfl, HB.out⟩
  have hn1 : n2 ≤ 120 := by omega
  by_cases h2 : 64 < n
  · go_enter Try.func9, Try.ntmps9
    go_wp2_with fail
    refine (awake7 _).mono ?_
    rintro e w1 ⟨rfl, hb⟩
    have HB := hide hb
    clear hb
    go_wp2_with fail
    go_ret
    exact ⟨rfl, HB.out⟩
  have hn64 : n ≤ 64 := by omega
  have b0 : ¬ (120 < (n2 : Int)) := by omega
  have b1 : ¬ (64 < (n : Int)) := by omega
  by_cases hc : nc < 1 ∨ 3 < nc
  · have HCN := hide hc
    clear hc h1 h2
    go_enter Try.func9, Try.ntmps9
    go_wp2_with fail
    refine (cnew_bad nc _ HCN.out).mono ?_
    rintro e w1 ⟨rfl, rfl⟩
    go_wp2_with fail
    refine (rcnew_bad nc _ HCN.out).mono ?_
    rintro e w1 ⟨rfl, rfl⟩
    go_wp2_with fail
    refine (new_in 8 _ (by decide) (by decide)).mono ?_
    rintro e w2 ⟨rfl, hM, hb⟩
    have HB := hide hb
    clear hb hM
    go_wp2_with fail
    refine (rnew_in 8 _ (by decide) (by decide)).mono ?_
    rintro e w3 ⟨rfl, hM, hb⟩
    replace HB := hide (HB.out.trans (hb.mono HB.out.size))
    clear hb hM
    go_wp2_with fail
    refine (num_any _ _).mono ?_
    rintro e w' ⟨rfl, rfl⟩
    go_wp2_with fail
    refine (awake7 _).mono ?_
    rintro e w4 ⟨rfl, hb⟩
    replace HB := hide (HB.out.trans (hb.mono HB.out.size))
    clear hb
    go_wp2_with fail
    go_ret
    exact ⟨rfl, HB.out⟩
  obtain ⟨N, rfl⟩ : ∃ N : Nat, nc = N := ⟨nc.toNat, by omega⟩
  have hN1 : 1 ≤ N := by omega
  have hN3 : N ≤ 3 := by omega
  clear hc h1 h2
  go_enter Try.func9, Try.ntmps9
  go_wp2_with fail
  refine (cnew_in N _ hN1 hN3).mono ?_
  rintro e w1 ⟨gb, cap, tl, rfl, hC, hS, hB⟩
  generalize hH : w.heap.size = H at *
  have HH := hide hH
  have HB := hide hB
  have HC := hide hC
  have HS := hide (fun k hk => And.intro (hS k hk) (hC.lt hk))
  clear hH hB hC hS
  go_wp2_with fail
  refine (rcnew_in N _ hN1 hN3).mono ?_
  rintro e w2 ⟨rgb, rcap, rtl, rfl, hC, hS, hB⟩
  replace HC := hide (HC.out.on hB)
  replace HB := hide (HB.out.trans (hB.mono (Nat.le_trans (Nat.le_of_eq HH.out.symm) HB.out.size)))
  have HR := hide hC
  have HS2 := hide (fun k hk => And.intro (hS k hk) (hC.lt hk))
  clear hB hC hS
  generalize w1.heap.size = RH at *
  go_wp2_with fail
  refine (new_in 8 _ (by decide) (by decide)).mono ?_
  rintro e w3 ⟨rfl, hM, hb⟩
  replace HC := hide (HC.out.on hb)
  replace HR := hide (HR.out.on hb)
  replace HB := hide (HB.out.trans (hb.mono (Nat.le_trans (Nat.le_of_eq HH.out.symm) HB.out.size)))
  have HM := hide hM
  have hlt := hM.hd.lt
  clear hb hM
  generalize w2.heap.size = gf at *
  go_wp2_with fail
  refine (rnew_in 8 _ (by decide) (by decide)).mono ?_
  rintro e w4 ⟨rfl, hM, hb⟩
  have hHR := (HS.out H (.inl rfl))
  have hRg := (HS2.out RH (.inl rfl))
  replace HB := hide (HB.out.trans (hb.mono (Nat.le_trans (Nat.le_of_eq HH.out.symm) HB.out.size)))
  have HSD := hide (show SidesN N w4 H H gb cap tl gf RH rgb rcap rtl w3.heap.size (fun _ => core0) (fun _ => core0) (fun _ => 0) (fun _ => 0) from
    ⟨HC.out.on hb, HM.out.on hb, HR.out.on hb, hM, HS.out, hlt, HS2.out, by omega⟩)
  clear hb hM HC HR HM HS HS2 hlt hHR hRg
  generalize w3.heap.size = rf at *
  go_wp2_with fail
  refine (num_any _ _).mono ?_
  rintro e w' ⟨rfl, rfl⟩
  go_wp2_with fail
  go_loopw [15] (fun i wr => ∃ j : Nat, j ≤ n ∧ i = .int .i64 j ∧ ∃ (K : Nat → Core) (m : Nat → Int), SidesN N wr H H gb cap tl gf RH rgb rcap rtl rf K K m m ∧ GoodK N K ∧ Below H w wr) (fun i _ => n - (intOf i).toNat)
  case atStart => exact ⟨0, Nat.zero_le _, rfl, _, _, HSD.out, GoodK.start N, HB.out⟩
  case round =>
    obtain ⟨j, hj, rfl, K, m, hS, hG, hB⟩ := hrel
    have HS2 := hide hS
    have HG := hide hG
    have HB2 := hide hB
    clear hS hG hB HSD HB
    by_cases hlt : j < n
    · obtain ⟨b, off, rfl, hbl, hcc⟩ := HA.out.resolve_left (by omega)
      obtain ⟨c0, v0, v1⟩ := hcc j hlt
      have hbH : b < H := HH.out ▸ hbl
      rw [← HB2.out.cell (p := ⟨b, _, none⟩) hbH] at c0
      have i1 : (0 : Int) ≤ (j : Int) := by omega
      have i2 : (j : Int) < (n : Int) := by omega
      have x1 : IntKind.i64.wrap (8 * (j : Int)) = 8 * (j : Int) := by rw [IntKind.wrap_i64]; omega
      have x2 : IntKind.u64.wrap (8 * (j : Int)) = 8 * (j : Int) := by rw [IntKind.wrap_u64]; omega
      clear hcc
      generalize xs j = v at c0 v0 v1
      go_wp2_with fail
      refine (pstore_any (gf + 1) gf 8 8 m (8 * (j : Int)) v _ HS2.out.mem (by omega) ⟨v0, v1⟩).mono ?_
      rintro e w5 ⟨rfl, hM, hm⟩
      have c1 := (hm.cell (b := b) (o := off + j) (show ¬ (b = gf) from fun e => by have := HS2.out.apart; omega) (Nat.lt_of_lt_of_le hbH HS2.out.leB)).trans c0
      have HS5 := hide (HS2.out.setMem hM hm)
      have HB5 := hide (below_mod HB2.out (Nat.le_of_eq HH.out.symm) hm (fun k hk => by have := HS2.out.s4; have hk' : k = gf := hk; omega))
      clear hM hm c0 HS2 HB2
      go_wp2_with fail
      refine (rstore_any (rf + 1) rf 8 64 m (8 * (j : Int)) v _ HS5.out.ref (by omega) (by omega) ⟨v0, v1⟩).mono ?_
      rintro e w6 ⟨rfl, hM, hm⟩
      have HS6 := hide (HS5.out.setRef hM hm)
      have HB6 := hide (below_mod HB5.out (Nat.le_of_eq HH.out.symm) hm (fun k hk => by have := HS5.out.apart; have hk' : k = rf := hk; omega))
      clear hM hm c1 HS5 HB5
      go_wp2_with fail
      go_roundw
      case rel => exact ⟨j + 1, by omega, by simp, _, _, HS6.out, HG.out, HB6.out⟩
      case measure => simp [intOf]; omega
    · obtain rfl : j = n := by omega
      clear hj hlt
      go_wp2_with fail
      go_loopw [16] (fun i wr => ∃ j : Nat, j ≤ n2 ∧ i = .int .i64 j ∧ ∃ (K : Nat → Core) (m : Nat → Int), SidesN N wr H H gb cap tl gf RH rgb rcap rtl rf K K m m ∧ GoodK N K ∧ Below H w wr) (fun i _ => n2 - (intOf i).toNat)
      case atStart => exact ⟨0, Nat.zero_le _, rfl, _, _, HS2.out, HG.out, HB2.out⟩
      case round =>
        clear HS2 HG HB2
        obtain ⟨i, hi, rfl, K3, m3, hS, hG, hB⟩ := hrel
        have HS3 := hide hS
        have HG3 := hide hG
        have HB3 := hide hB
        clear hS hG hB
        by_cases hlt : i < n2
        · obtain ⟨b, off, rfl, hbl, hcc⟩ := HA2.out.resolve_left (by omega)
          obtain ⟨c0, c1, c2, c3, c4, c5, c6, c7, c8, u1, u2⟩ := hcc i hlt
          have hbH : b < H := HH.out ▸ hbl
          rw [← HB3.out.cell (p := ⟨b, _, none⟩) hbH] at c0 c1 c2 c3 c4 c5 c6 c7 c8
          have i1 : (0 : Int) ≤ (i : Int) := by omega
          have i2 : (i : Int) < (n2 : Int) := by omega
          clear hcc
          have HU := hide (And.intro u1 u2)
          clear u1 u2
          generalize hq : ys i = q at c0 c1 c2 c3 c4 c5 c6 c7 c8 HU
          clear hq
          obtain ⟨xd, xc, xr, xs, xp, xt, xy, xa, xv⟩ := q
          dsimp only at c0 c1 c2 c3 c4 c5 c6 c7 c8 HU
          go_wp2_with fail
          refine (done7_any N H H gb cap tl gf RH rgb rcap rtl rf K3 m3 xd xc xr xs xp xt xy xa xv HU.out.1 HU.out.2 _ HS3.out HG3.out).mono ?_
          rintro e w5 ⟨rfl, ⟨K4, m4, hS, hG⟩, hb⟩
          have HS4 := hide hS
          have HG4 := hide hG
          have HB4 := hide (HB3.out.trans hb)
          clear hS hG hb c0 c1 c2 c3 c4 c5 c6 c7 c8 HS3 HG3 HB3
          go_wp2_with fail
          go_roundw
          case rel => exact ⟨i + 1, by omega, by simp, _, _, HS4.out, HG4.out, HB4.out⟩
          case measure => simp [intOf]; omega
        · obtain rfl : i = n2 := by omega
          clear hi hlt
          go_wp2_with fail
          refine (alike7_any H gb cap N tl RH rgb rcap rtl K3 _ HS3.out.cores HS3.out.rcores HG3.out).mono ?_
          rintro e w5 ⟨rfl, hb⟩
          have HB5 := hide (HB3.out.trans (hb.mono HS3.out.leB))
          clear hb HS3 HG3 HB3
          go_wp2_with fail
          refine (awake7 _).mono ?_
          rintro e w6 ⟨rfl, hb⟩
          have HB6 := hide (HB5.out.trans (hb.mono (Nat.le_trans (Nat.le_of_eq HH.out.symm) HB5.out.size)))
          clear hb HB5
          go_wp2_with fail
          go_ret
          exact ⟨rfl, by rw [HH.out]; exact HB6.out⟩
end Go.Proofs.Ytlfenakabedmfaa
