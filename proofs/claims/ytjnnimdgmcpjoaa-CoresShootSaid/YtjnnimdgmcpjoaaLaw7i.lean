/- The walk of the statement of chapter 7: CoresShoot. -/
import Derived.Test.YtjnnimdgmcpjoaaLaw7h
import Derived.Test.YtjnnimdgmcpjoaaInts
namespace Go.Proofs.Ytjnnimdgmcpjoaa
open Go.RowKit Go.Shelf
theorem and3 : ∀ k : Fin 8, ∃ a : Fin 4, bits .and .u64 (k.val : Int) 3 = ((a.val : Nat) : Int) := by decide +kernel
set_option maxRecDepth 100000 in
set_option maxHeartbeats 4000000 in
theorem law_CoresShoot (w : World) (s0 q0 : Int) (all : Bool) (A : Option Addr) (n ca : Nat) (xs : Nat → Int) (A2 : Option Addr) (n2 ca2 : Nat) (xs2 : Nat → Int) (hA : I64At w A n xs) (hn : n ≤ 9223372036854775807) (hA2 : I64At w A2 n2 xs2) :
    Calls Try.prog 6 #[.slice A n ca, .slice A2 n2 ca2, .int .i64 s0, .int .i64 q0, .bool all] w fun e w' => e = .returned (.bool true) ∧ Below w.heap.size w w' := by
  have HA := hide hA
  have HA2 := hide hA2
  clear hA hA2
  by_cases h60 : 60 < (n : Int)
  · go_enter Try.func6, Try.ntmps6
    go_wp2_with fail
    refine (awake7 _).mono ?_
    rintro e w1 ⟨rfl, hb⟩
    have HB := hide hb
    clear hb
    go_wp2_with fail
    go_ret
    exact ⟨rfl, HB.out⟩
  have hdn : decide (60 < (n : Int)) = false := decide_eq_false h60
  have hnn : (n : Int) ≤ 60 := by omega
  clear h60 hdn
  go_enter Try.func6, Try.ntmps6
  go_wp2_with fail
  clear hnn
  refine (cnew_in 3 _ (by decide) (by decide)).mono ?_
  rintro e w1 ⟨gb, cap, tl, rfl, hC, hS, hB⟩
  generalize hH : w.heap.size = H at *
  have HG := hide hH
  have HB := hide hB
  have HC := hide hC
  have HS := hide hS
  have hz1 := hB.size
  rw [hH] at hz1
  clear hH hB hC hS
  go_wp2_with fail
  refine (new_in 8 _ (by decide) (by decide)).mono ?_
  rintro e w2 ⟨rfl, hM, hb⟩
  generalize hgf : w1.heap.size = gf at *
  replace HC := hide (HC.out.on (hgf ▸ hb))
  replace HB := hide (HB.out.trans (hb.mono hz1))
  have HM := hide hM
  clear hb hM hgf
  go_wp2_with fail
  refine (pstore_any (gf + 1) gf 8 8 _ 0 257 _ HM.out (by decide) (by decide)).mono ?_
  rintro e w4 ⟨rfl, hM, hm⟩
  replace HC := hide (HC.out.store HM.out hm)
  replace HB := hide (below_mod HB.out (Nat.le_of_eq HG.out.symm) hm (fun k hk => by have hk' : k = gf := hk; omega))
  replace HM := hide hM
  clear hM hm
  go_wp2_with fail
  refine (pstore_any (gf + 1) gf 8 8 _ 64 513 _ HM.out (by decide) (by decide)).mono ?_
  rintro e w5 ⟨rfl, hM, hm⟩
  replace HC := hide (HC.out.store HM.out hm)
  replace HB := hide (below_mod HB.out (Nat.le_of_eq HG.out.symm) hm (fun k hk => by have hk' : k = gf := hk; omega))
  replace HM := hide hM
  clear hM hm
  generalize storeV 8 (storeV 8 (fun _ => 0) 0 257) 64 513 = m0 at HM
  go_wp2_with fail
  go_loopw [15] (fun i wr => ∃ (k : Nat) (m : Nat → Int), k ≤ 8 ∧ i = .int .u64 k ∧ CoresAt wr H gb cap 3 tl (fun _ => core0) ∧ MemAt wr (gf + 1) gf 8 8 m ∧ Below H w wr) (fun i _ => 8 - (intOf i).toNat)
  case atStart => exact ⟨0, m0, by omega, rfl, HC.out, HM.out, HB.out⟩
  case round =>
    obtain ⟨k, m, hk, rfl, hC, hM, hB⟩ := hrel
    have HC2 := hide hC
    have HM2 := hide hM
    have HB2 := hide hB
    clear hC hM hB HC HM HB
    by_cases hlt : k < 8
    · obtain ⟨⟨a, ha4⟩, ha⟩ := and3 ⟨k, hlt⟩
      dsimp only at ha
      have a0 : (0 : Int) ≤ (a : Int) := by omega
      have a3 : (a : Int) < 4 := by omega
      go_wp2_with fail
      refine (pstore_any (gf + 1) gf 8 8 _ (128 + 8 * (k : Int)) (783 + 256 * (a : Int)) _ HM2.out (by omega) (by omega)).mono ?_
      rintro e w6 ⟨rfl, hM, hm⟩
      have HC3 := hide (HC2.out.store HM2.out hm)
      have HB3 := hide (below_mod HB2.out (Nat.le_of_eq HG.out.symm) hm (fun k hk => by have hk' : k = gf := hk; omega))
      have HM3 := hide hM
      clear hM hm HC2 HM2 HB2
      go_wp2_with fail
      go_roundw
      case rel => exact ⟨k + 1, _, by omega, by simp, HC3.out, HM3.out, HB3.out⟩
      case measure => simp [intOf]; omega
    · have hkf : decide ((k : Int) < 8) = false := decide_eq_false (by omega)
      clear hk
      have HK2 := hide (AllG.start 3)
      go_upto_region 13 with fail
      clear hlt hkf
      go_wp2_with fail
      go_loopw [16, 17] (fun i _ wr => ∃ (i' : Nat) (K : Nat → Core), i' ≤ n ∧ i = .int .i64 i' ∧ AllG 3 K ∧ CoresAt wr H gb cap 3 tl K ∧ MemAt wr (gf + 1) gf 8 8 m ∧ Below H w wr) (fun i _ _ => n - (intOf i).toNat)
      case atStart => exact ⟨0, _, Nat.zero_le _, rfl, HK2.out, HC2.out, HM2.out, HB2.out⟩
      case round =>
        obtain ⟨i, K, hi, rfl, hK, hC, hM, hB⟩ := hrel
        have HK := hide hK
        have HC4 := hide hC
        have HM4 := hide hM
        have HB4 := hide hB
        have hA2 := HA2.out.below (HG.out ▸ hB)
        have HA2' := hide hA2
        clear hK hC hM hB HC2 HM2 HB2 HK2 hA2
        by_cases hlt : i < n
        · obtain ⟨ba, oa, rfl, hba, hca⟩ := HA.out.resolve_left (by omega)
          have hbg : ba < H := by have := HG.out; omega
          have x0 := (hca i hlt).1
          have i0 : (0 : Int) ≤ (i : Int) := by omega
          have i1 : (i : Int) < (n : Int) := by omega
          have HC0 := hide (fun (W : World) (hb : Below H w W) => (hb.cell (p := ⟨ba, oa + i, none⟩) hbg).trans x0)
          have qp := low_bd (xs i) (n := 8) (by omega)
          have lp := hide (fun W => low_any (xs i) 8 W (by omega) (by omega))
          obtain ⟨p, hp⟩ : ∃ p : Nat, lowV (xs i) 8 = p := ⟨(lowV (xs i) 8).toNat, by omega⟩
          rw [hp] at qp lp
          have p1 : p < 8 := by omega
          clear hp qp hca hba x0
          go_upto_if 78 with fail
          go_cut [17] from 69 to 100 (fun s17 wx => ∃ k : Nat, k < 9 ∧ s17 = .int .i64 k ∧ wx = wr)
          case first =>
            by_cases hl2 : i < n2
            · obtain ⟨bb, ob, rfl, hbb, hcb⟩ := HA2'.out.resolve_left (by omega)
              have c1 := (hcb i hl2).1
              have i2 : (i : Int) < (n2 : Int) := by omega
              have qk := low_bd (xs2 i) (n := 9) (by omega)
              have lk := hide (fun W => low_any (xs2 i) 9 W (by omega) (by omega))
              obtain ⟨k, hk⟩ : ∃ p : Nat, lowV (xs2 i) 9 = p := ⟨(lowV (xs2 i) 9).toNat, by omega⟩
              rw [hk] at qk lk
              clear hcb hbb hk
              go_wp2_with fail
              refine (lk.out _).mono ?_
              rintro e w' ⟨rfl, rfl⟩
              go_wp2_with fail
              go_meet
              case rel => exact ⟨k, by omega, rfl, rfl⟩
            · have i2 : ¬ (i : Int) < (n2 : Int) := by omega
              go_wp2_with fail
              go_meet
              case rel => exact ⟨0, by omega, rfl, rfl⟩
          case rest =>
            obtain ⟨k, hk9, rfl, rfl⟩ := hcut
            have k0 : (0 : Int) ≤ (k : Int) := by omega
            have k1 : (k : Int) < 9 := by omega
            have hrem : (k : Int).tmod 3 = ((k % 3 : Nat) : Int) := by rw [Int.tmod_eq_emod_of_nonneg (by omega)]; rfl
            have hquo : (k : Int).tdiv 3 = ((k / 3 : Nat) : Int) := by rw [Int.tdiv_eq_ediv_of_nonneg (by omega)]; rfl
            obtain ⟨r, hr⟩ : ∃ r, k % 3 = r := ⟨_, rfl⟩
            obtain ⟨d, hd⟩ : ∃ r, k / 3 = r := ⟨_, rfl⟩
            rw [hr] at hrem
            rw [hd] at hquo
            have r3 : r < 3 := by omega
            have d0 : (0 : Int) ≤ (d : Int) := by omega
            have d3 : (d : Int) < 3 := by omega
            clear hr hd
            go_wp2_with fail
            refine (cset_yes H gb cap 3 tl K r 0 (1 + (d : Int)) _ HC4.out r3 (.inr ⟨by decide, by omega, by omega⟩)).mono ?_
            rintro e w3 ⟨rfl, hC, hm⟩
            have HM5 := hide (HM4.out.crS HC4.out (Mod.cr hm))
            have HB5 := hide (below_mod HB4.out (Nat.le_of_eq HG.out.symm) hm (fun k hk => HS.out k (.inr (.inl hk))))
            have HC5 := hide hC
            have HK5 := hide (HK.out.upd_ r (a := 0) (b := 1 + (d : Int)) (HK.out r r3))
            clear hC hm HC4 HM4 HB4 HK
            have c0 := HC0.out _ HB5.out
            go_wp2_with fail
            refine (lp.out _).mono ?_
            rintro e w' ⟨rfl, rfl⟩
            go_wp2_with fail
            refine (ctrans_any H gb cap 3 tl _ (gf + 1) gf 8 8 m r p _ HC5.out HM5.out HK5.out.ok).mono ?_
            rintro e w8 ⟨rfl, hC, hm⟩
            have HM6 := hide (HM5.out.crS HC5.out hm)
            have HB6 := hide (below_mod HB5.out (Nat.le_of_eq HG.out.symm) hm HS.out)
            have HC6 := hide hC
            have HK6 := hide (HK5.out.trK 8 m r p)
            clear hC hm HC5 HM5 HB5 HK5 c0
            go_wp2_with fail
            go_roundw
            case rel => exact ⟨i + 1, _, by omega, by simp, HK6.out, HC6.out, HM6.out, HB6.out⟩
            case measure => simp [intOf]; omega
        · have hif : ¬ (i : Int) < (n : Int) := by omega
          have qs := low_bd s0 (n := 3) (by omega)
          have ls := hide (fun W => low_any s0 3 W (by omega) (by omega))
          obtain ⟨s, hs⟩ : ∃ p : Nat, lowV s0 3 = p := ⟨(lowV s0 3).toNat, by omega⟩
          rw [hs] at qs ls
          have qq := low_bd q0 (n := 8) (by omega)
          have lq := hide (fun W => low_any q0 8 W (by omega) (by omega))
          obtain ⟨q, hq⟩ : ∃ p : Nat, lowV q0 8 = p := ⟨(lowV q0 8).toNat, by omega⟩
          rw [hq] at qq lq
          clear hs hq
          go_upto_region 21 with fail
          clear hif hlt hi HA HA2 HA2' HM4
          go_wp2_with fail
          refine (ls.out _).mono ?_
          rintro e w' ⟨rfl, rfl⟩
          go_wp2_with fail
          refine (lq.out _).mono ?_
          rintro e w' ⟨rfl, rfl⟩
          clear ls lq
          go_wp2_with fail
          go_loopw [18, 19, 20, 21, 22] (fun s18 s19 s20 _ _ wr => ∃ k cnt left : Nat, k ≤ 3 ∧ s20 = .int .i64 k ∧ s18 = .int .i64 cnt ∧ s19 = .int .i64 left ∧ cnt = dropC K (shotP (1 + (s : Int)) q all) k ∧ cnt + left = lenC K k ∧ CoresAt wr H gb cap 3 tl K ∧ Below H w wr) (fun _ _ k _ _ _ => 3 - (intOf k).toNat)
          case atStart => exact ⟨0, 0, 0, by omega, rfl, rfl, rfl, rfl, rfl, HC4.out, HB4.out⟩
          case round =>
            obtain ⟨k, cnt, left, hk, rfl, rfl, rfl, hcn, hcl, hC, hB⟩ := hrel
            have hl24 := lenC_le K k
            have HCN := hide hcn
            have HCL := hide hcl
            have HC5 := hide hC
            have HB5 := hide hB
            clear hcn hcl hC hB HC4 HB4
            by_cases hlt : k < 3
            · have k0 : (0 : Int) ≤ (k : Int) := by omega
              have k3 : (k : Int) < 3 := by omega
              have HL := hide hl24
              clear hl24
              go_wp2_with fail
              refine (call_rows H gb cap 3 tl K k _ HC5.out hlt).mono ?_
              rintro e w6 ⟨R, cp, rfl, hR, hb⟩
              have HC6 := hide (HC5.out.on hb)
              have HB6 := hide (HB5.out.trans (hb.mono (Nat.le_trans (Nat.le_of_eq HG.out.symm) HB5.out.size)))
              have hN8 := vis_len (K k).c 8
              have HR6 := hide hR
              clear hb hR HC5 HB5
              generalize hc : (K k).c = c at HR6 hN8 ⊢
              generalize hN : (vis c 8).length = N at HR6 hN8 ⊢
              have HCC := hide hc
              have HNN := hide hN
              have HLT := hide hlt
              have z8 : (N : Int) ≤ 8 := by omega
              clear hc hN hlt
              go_wp2_with fail
              go_loopw [18, 19, 22] (fun s18 s19 s22 wz => ∃ j cn lf : Nat, j ≤ N ∧ s22 = .int .i64 j ∧ s18 = .int .i64 cn ∧ s19 = .int .i64 lf ∧ cn = dropC K (shotP (1 + (s : Int)) q all) k + dropN c (shotP (1 + (s : Int)) q all) ((vis c 8).take j) ∧ cn + lf = lenC K k + j ∧ RowsAt wz wr.heap.size R N (ts c) ∧ CoresAt wz H gb cap 3 tl K ∧ Below H w wz) (fun _ _ j _ => N - (intOf j).toNat)
              case atStart => exact ⟨0, cnt, left, Nat.zero_le _, rfl, rfl, rfl, HCN.out, HCL.out, HR6.out, HC6.out, HB6.out⟩
              case round =>
                obtain ⟨j, cn, lf, hj, rfl, rfl, rfl, hcn, hcl, hr, hC, hB⟩ := hrel
                have HCN7 := hide hcn
                have HCL7 := hide hcl
                have hL := HL.out
                have HR7 := hide hr
                have HC7 := hide hC
                have HB7 := hide hB
                have y0 : (0 : Int) ≤ (cn : Int) := by omega
                have y1 : (cn : Int) ≤ 40 := by omega
                have y2 : (0 : Int) ≤ (lf : Int) := by omega
                have y3 : (lf : Int) ≤ 40 := by omega
                clear hcn hcl hr hC hB HR6 HC6 HB6 HCN HCL hL
                by_cases hjm : j < N
                · obtain ⟨gr, rfl, hBg, hgl, hcell⟩ := HR7.out.resolve_left (by omega)
                  obtain ⟨p0, p1, _, _, _⟩ := hcell j hjm
                  have j0 : (0 : Int) ≤ (j : Int) := by omega
                  have j1 : (j : Int) < (N : Int) := by omega
                  obtain ⟨b1, e1⟩ : ∃ b, ((ts c j).sp == (1 + (s : Int))) = b := ⟨_, rfl⟩
                  obtain ⟨b2, e2⟩ : ∃ b, ((ts c j).pg == (q : Int)) = b := ⟨_, rfl⟩
                  have HP := hide (show shotP (1 + (s : Int)) q all (ts c j) = (b1 && (all || b2)) by unfold shotP; rw [e1, e2])
                  have HJ := hide (show j < (vis c 8).length by rw [HNN.out]; exact hjm)
                  clear hcell
                  cases b1 <;> cases all <;> cases b2
                  all_goals
                    go_wp2
                    go_roundw
                    case rel =>
                      first
                      | exact ⟨j + 1, cn + 1, lf, by omega, by simp, by simp, rfl, by rw [cnt_yes HJ.out HP.out]; have := HCN7.out; omega, by have := HCL7.out; omega, HR7.out, HC7.out, HB7.out⟩
                      | exact ⟨j + 1, cn, lf + 1, by omega, by simp, rfl, by simp, by rw [cnt_no HJ.out HP.out]; exact HCN7.out, by have := HCL7.out; omega, HR7.out, HC7.out, HB7.out⟩
                    case measure => simp [intOf]; omega
                · obtain rfl : j = N := by omega
                  have HCX := hide (show cn = dropC K (shotP (1 + (s : Int)) q all) (k + 1) by
                    rw [dropC_next, HCC.out, HCN7.out, take_len _ _ (Nat.le_of_eq HNN.out)])
                  have HLX := hide (show cn + lf = lenC K (k + 1) by
                    have h1 := HCL7.out
                    show _ = lenC K k + (vis (K k).c 8).length
                    rw [HCC.out, HNN.out]
                    omega)
                  have HB8 := hide HB7.out
                  clear hjm hj
                  go_wp2
                  go_roundw
                  case rel => exact ⟨k + 1, cn, lf, by have := HLT.out; omega, by simp, rfl, rfl, HCX.out, HLX.out, HC7.out, HB7.out⟩
                  case measure => have := HLT.out; simp [intOf]; omega
            · have hkf : decide ((k : Int) < 3) = false := decide_eq_false (by omega)
              have hk3 : k = 3 := by omega
              rw [hk3] at HCN HCL
              clear hk hlt hl24 hk3
              go_upto_region 33 with fail
              have HD := hide (fun w hC => cdropPage_any H gb cap 3 tl K (1 + (s : Int)) q w hC)
              have HE := hide (fun w hC => cdropSpace_any H gb cap 3 tl K (1 + (s : Int)) w hC)
              have HNP := hide (show ∀ k, k < 3 → ∀ j, j < (vis (dropK K (shotP (1 + (s : Int)) q all) 3 k).c 8).length → shotP (1 + (s : Int)) q all (ts (dropK K (shotP (1 + (s : Int)) q all) 3 k).c j) = false from fun k hk j hj => by
                have h3 : (dropK K (shotP (1 + (s : Int)) q all) 3 k).c = dropAt (K k).c (shotP (1 + (s : Int)) q all) (vis (K k).c 8) := by unfold dropK; rw [if_pos hk]
                rw [h3] at hj ⊢
                exact drop_not hj)
              have HLE := hide (show (left : Int) + ((lenC (dropK K (shotP (1 + (s : Int)) q all) 3) 0 : Nat) : Int) = (lenC (dropK K (shotP (1 + (s : Int)) q all) 3) 3 : Nat) by
                have h1 := lenC_drop K (shotP (1 + (s : Int)) q all) 3 3 (Nat.le_refl _)
                have h2 := HCN.out
                have h3 := HCL.out
                have h4 : lenC (dropK K (shotP (1 + (s : Int)) q all) 3) 0 = 0 := rfl
                omega)
              clear hkf
              cases all
              all_goals
                first
                | (rw [← shotP_one, ← HCN.out] at HD
                   generalize dropK K (shotP (1 + (s : Int)) q false) 3 = K2 at HD HNP HLE
                   clear HCN HCL HE
                   go_wp2_with fail
                   refine (HD.out _ HC5.out).mono ?_)
                | (rw [← shotP_all _ q, ← HCN.out] at HE
                   generalize dropK K (shotP (1 + (s : Int)) q true) 3 = K2 at HE HNP HLE
                   clear HCN HCL HD
                   go_wp2_with fail
                   refine (HE.out _ HC5.out).mono ?_)
                rintro e w6 ⟨rfl, hC, hm⟩
                have HB6 := hide (below_mod HB5.out (Nat.le_of_eq HG.out.symm) hm HS.out)
                have HC6 := hide hC
                clear hC hm HC5 HB5
                go_wp2_with fail
                go_loopw [19, 23, 24, 25] (fun s19 s23 _ _ wr => ∃ (k : Nat) (v : Int), k ≤ 3 ∧ s23 = .int .i64 k ∧ s19 = .int .i64 v ∧ v + ((lenC K2 k : Nat) : Int) = ((lenC K2 3 : Nat) : Int) ∧ CoresAt wr H gb cap 3 tl K2 ∧ Below H w wr) (fun _ k _ _ _ => 3 - (intOf k).toNat)
                case atStart => exact ⟨0, left, by omega, rfl, rfl, HLE.out, HC6.out, HB6.out⟩
                case round =>
                  obtain ⟨k, v, hk, rfl, rfl, hv, hC, hB⟩ := hrel
                  have HV := hide hv
                  have HC7 := hide hC
                  have HB7 := hide hB
                  have HL := hide (And.intro (lenC_le K2 k) (lenC_le K2 3))
                  clear hv hC hB HC6 HB6 HLE
                  by_cases hlt : k < 3
                  · have k0 : (0 : Int) ≤ (k : Int) := by omega
                    have k3 : (k : Int) < 3 := by omega
                    go_wp2_with fail
                    refine (call_rows H gb cap 3 tl K2 k _ HC7.out hlt).mono ?_
                    rintro e w7 ⟨R, cp, rfl, hR, hb⟩
                    have HC8 := hide (HC7.out.on hb)
                    have HB8 := hide (HB7.out.trans (hb.mono (Nat.le_trans (Nat.le_of_eq HG.out.symm) HB7.out.size)))
                    have hN8 := vis_len (K2 k).c 8
                    have HNQ := hide (HNP.out k hlt)
                    have HR8 := hide hR
                    clear hb hR HC7 HB7
                    generalize hc : (K2 k).c = c at HR8 HNQ hN8 ⊢
                    generalize hN : (vis c 8).length = N at HR8 HNQ hN8 ⊢
                    have HCC := hide hc
                    have HNN := hide hN
                    have HLT := hide hlt
                    have z8 : (N : Int) ≤ 8 := by omega
                    clear hc hN hlt
                    go_wp2_with fail
                    go_loopw [19, 25] (fun s19 s25 wz => ∃ (j : Nat) (v : Int), j ≤ N ∧ s25 = .int .i64 j ∧ s19 = .int .i64 v ∧ v + ((lenC K2 k : Nat) : Int) + (j : Int) = ((lenC K2 3 : Nat) : Int) ∧ RowsAt wz wr.heap.size R N (ts c) ∧ CoresAt wz H gb cap 3 tl K2 ∧ Below H w wz) (fun _ j _ => N - (intOf j).toNat)
                    case atStart => exact ⟨0, v, Nat.zero_le _, rfl, rfl, by have := HV.out; omega, HR8.out, HC8.out, HB8.out⟩
                    case round =>
                      obtain ⟨j, u, hj, rfl, rfl, hu, hr, hC, hB⟩ := hrel
                      have hL := HL.out
                      have HU := hide hu
                      have HR9 := hide hr
                      have HC9 := hide hC
                      have HB9 := hide hB
                      have y0 : (-100 : Int) ≤ u := by omega
                      have y1 : u ≤ 100 := by omega
                      clear hu hr hC hB HR8 HC8 HB8 HV hL
                      by_cases hjm : j < N
                      · obtain ⟨gr, rfl, hBg, hgl, hcell⟩ := HR9.out.resolve_left (by omega)
                        obtain ⟨p0, p1, _, _, _⟩ := hcell j hjm
                        have j0 : (0 : Int) ≤ (j : Int) := by omega
                        have j1 : (j : Int) < (N : Int) := by omega
                        have hP := HNQ.out j hjm
                        unfold shotP at hP
                        obtain ⟨b1, e1⟩ : ∃ b, ((ts c j).sp == (1 + (s : Int))) = b := ⟨_, rfl⟩
                        obtain ⟨b2, e2⟩ : ∃ b, ((ts c j).pg == (q : Int)) = b := ⟨_, rfl⟩
                        rw [e1, e2] at hP
                        clear hcell
                        cases b1 <;> cases b2
                        all_goals
                          first
                          | (exfalso; revert hP; decide)
                          | (clear hP
                             go_wp2
                             go_roundw
                             case rel => exact ⟨j + 1, u - 1, by omega, by simp, rfl, by have := HU.out; omega, HR9.out, HC9.out, HB9.out⟩
                             case measure => simp [intOf]; omega)
                      · obtain rfl : j = N := by omega
                        have HUX := hide (show u + ((lenC K2 (k + 1) : Nat) : Int) = ((lenC K2 3 : Nat) : Int) by
                          have h1 := HU.out
                          have h2 : lenC K2 (k + 1) = lenC K2 k + j := by
                            show lenC K2 k + (vis (K2 k).c 8).length = _
                            rw [HCC.out, HNN.out]
                          omega)
                        clear hjm hj
                        go_wp2
                        go_roundw
                        case rel => exact ⟨k + 1, u, by have := HLT.out; omega, by simp, rfl, HUX.out, HC9.out, HB9.out⟩
                        case measure => have := HLT.out; simp [intOf]; omega
                  · have hkf : decide ((k : Int) < 3) = false := decide_eq_false (by omega)
                    obtain rfl : v = 0 := by
                      have h1 := HV.out
                      have hk3 : k = 3 := by omega
                      rw [hk3] at h1
                      omega
                    clear hk hlt HV HL
                    go_wp2_with fail
                    refine (awake7 _).mono ?_
                    rintro e w7 ⟨rfl, hb⟩
                    have HB8 := hide (HB7.out.trans (hb.mono (Nat.le_trans (Nat.le_of_eq HG.out.symm) HB7.out.size)))
                    clear hb
                    go_wp2_with fail
                    go_ret
                    exact ⟨rfl, HG.out ▸ HB8.out⟩
end Go.Proofs.Ytjnnimdgmcpjoaa
