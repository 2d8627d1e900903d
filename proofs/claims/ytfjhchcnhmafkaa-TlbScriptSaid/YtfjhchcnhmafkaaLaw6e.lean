/- The walk of TlbFilled: it returns true. -/
import Derived.Test.YtfjhchcnhmafkaaLaw6
import Derived.Test.YtfjhchcnhmafkaaSame6
import Derived.Test.YtfjhchcnhmafkaaLaw6d
namespace Go.Proofs.Ytfjhchcnhmafkaa
open Go.RowKit Go.Shelf
theorem Acts6.below {w w' : World} {A : Option Addr} {n : Nat} {xs : Nat → Act6} (h : Acts6 w A n xs) (hb : Below w.heap.size w w') : Acts6 w' A n xs := by
  rcases h with h | ⟨b, off, h1, h2, h3⟩
  · exact .inl h
  · refine .inr ⟨b, off, h1, Nat.lt_of_lt_of_le h2 hb.size, fun i hi => ?_⟩
    obtain ⟨c0, c1, c2, c3, c4, c5, c6, c7⟩ := h3 i hi
    exact ⟨(cell_below hb h2).trans c0, (cell_below hb h2).trans c1, (cell_below hb h2).trans c2, (cell_below hb h2).trans c3, (cell_below hb h2).trans c4, (cell_below hb h2).trans c5, (cell_below hb h2).trans c6, (cell_below hb h2).trans c7⟩
theorem Below.drewN6 (w : World) (k : Nat) : Below w.heap.size w (w.drewN k) := below_drewN (Below.refl _ _) k
set_option maxRecDepth 100000 in
set_option maxHeartbeats 8000000 in
theorem law_TlbFilled (w : World) (A : Option Addr) (n ca : Nat) (xs : Nat → Act6) (xa xb xc : Int) (xd xe : Bool) (hA : Acts6 w A n xs) (hn : n ≤ 9223372036854775807) (_ : (Lit.int .i64 xa).wf = true) (_ : (Lit.int .i64 xb).wf = true) (_ : (Lit.int .i64 xc).wf = true) :
    Calls Try.prog 6 #[.slice A n ca, .agg #[.int .i64 xa, .int .i64 xb, .int .i64 xc, .bool xd, .bool xe]] w fun e w' => e = .returned (.bool true) ∧ Below w.heap.size w w' := by
  have HA := hide hA
  clear hA
  by_cases h1 : 120 < n
  · go_enter Try.func6, Try.ntmps6
    go_wp2_with fail
    refine (awake6 _).mono ?_
    rintro e w1 ⟨rfl, hb⟩
    have hb0 := (Below.refl w.heap.size w).alloc (Nat.le_refl _) (.cells #[.int .i64 xa, .int .i64 xb, .int .i64 xc, .bool xd, .bool xe] 28)
    have HB := hide (hb0.trans (hb.mono hb0.size))
    clear hb hb0
    go_wp2_with fail
    go_ret
    exact ⟨rfl, HB.out⟩
  have hn1 : n ≤ 120 := by omega
  go_enter Try.func6, Try.ntmps6
  go_wp2_with fail
  have hb0 := (Below.refl w.heap.size w).alloc (Nat.le_refl _) (.cells #[.int .i64 xa, .int .i64 xb, .int .i64 xc, .bool xd, .bool xe] 28)
  have hx0 := Blk.new w 28 #[.int .i64 xa, .int .i64 xb, .int .i64 xc, .bool xd, .bool xe]
  have HA1 := hide (HA.out.below hb0)
  have HB0 := hide hb0
  have HX0 := hide hx0
  have hxl := hx0.lt
  clear hb0 hx0 HA
  generalize w.alloc (.cells #[.int .i64 xa, .int .i64 xb, .int .i64 xc, .bool xd, .bool xe] 28) = w0 at *
  refine (played_any w0 A n ca xs HA1.out hn).mono ?_
  rintro e w1 ⟨rfl, ⟨c, hT, hG⟩, hb⟩
  have HT := hide hT
  have HG := hide hG
  have HX := hide (HX0.out.below hb hxl)
  have HB := hide (HB0.out.trans (hb.mono HB0.out.size))
  have hl := hT.lt
  have hz0 := HB0.out.size
  clear hT hG hb HX0 HB0 HA1
  generalize w0.heap.size = gc at *
  obtain ⟨bx, hbx⟩ : ∃ bx, w.heap.size = bx := ⟨_, rfl⟩
  go_wp2_with fail
  refine (all_rows _ _ _ HT.out).mono ?_
  rintro e w2 ⟨R, cap, rfl, hr, hb⟩
  have HT2 := hide (HT.out.below hb hl)
  have HX2 := hide (HX.out.below hb HX.out.lt)
  have HB2 := hide (HB.out.trans (hb.mono HB.out.size))
  have HR := hide hr
  have hl2 := HT2.out.lt
  clear hb HT HB HX hr
  obtain ⟨B0, hB0⟩ : ∃ B0, w1.heap.size = B0 := ⟨_, rfl⟩
  obtain ⟨x0, x1, x2, x3, x4⟩ := HX2.out.c5
  rw [hB0] at HR
  rw [hbx] at HX2 x0 x1 x2 x3 x4 hxl
  have HBX := hide hbx
  obtain ⟨N, hN⟩ : ∃ N, (vis c 8).length = N := ⟨_, rfl⟩
  have hN8 : N ≤ 8 := by rw [← hN]; exact vis_len c 8
  rw [hN] at HR ⊢
  have HN := hide hN
  have hgB : gc < B0 := by omega
  clear hB0 hbx hN hz0 hl
  by_cases hx : mayFill (⟨xa, xb, xc, xd, xe⟩ : Tr)
  · go_wp2_with fail
    refine (fill_any gc c ⟨xa, xb, xc, xd, xe⟩ w2 HT2.out HG.out.ok).mono ?_
    rintro e w3 ⟨rfl, hT3, hm3⟩
    rw [fillE_good hx]
    have HT3 := hide hT3
    have HR3 := hide (HR.out.mod hm3 (fun k e => by omega))
    have hx3 := HX2.out.mod hm3 (by omega)
    have HX3 := hide hx3
    have HB3 := hide (below_mod HB2.out (Nat.le_refl _) hm3 (fun k e => by have := HBX.out; omega))
    obtain ⟨x0, x1, x2, x3, x4⟩ := hx3.c5
    have HF := hide (HG.out.filled hx)
    have HMF := hide hx
    clear hT3 hm3 hx3 HT2 HR HB2 HX2 hl2 hx
    go_wp2_with fail
    refine (find_in _ _ _ _ _ HT3.out).mono ?_
    rintro e w4 ⟨rfl, hb⟩
    rw [show findTr (fillC c ⟨xa, xb, xc, xd, xe⟩) xa xb = ⟨xa, xb, xc, xd, xe⟩ from HF.out.1, show findOk (fillC c ⟨xa, xb, xc, xd, xe⟩) xa xb = true from HF.out.2]
    rw [show Tr.row ⟨xa, xb, xc, xd, xe⟩ = #[.int .i64 xa, .int .i64 xb, .int .i64 xc, .bool xd, .bool xe] from rfl]
    have HT4 := hide (HT3.out.below hb HT3.out.lt)
    have HR4 := hide (HR3.out.below hb)
    have HX4 := hide (HX3.out.below hb HX3.out.lt)
    have HB4 := hide (HB3.out.trans (hb.mono HB3.out.size))
    clear hb HT3 HR3 HX3 HB3 x0 x1 x2 x3 x4
    go_wp2_with fail
    have hal := (Below.refl w4.heap.size w4).alloc (Nat.le_refl _) (.cells #[.int .i64 xa, .int .i64 xb, .int .i64 xc, .bool xd, .bool xe] 28)
    have HT5 := hide (HT4.out.below hal HT4.out.lt)
    have HR5 := hide (HR4.out.below hal)
    have HX5 := hide (HX4.out.below hal HX4.out.lt)
    have HY5 := hide (Blk.new w4 28 #[.int .i64 xa, .int .i64 xb, .int .i64 xc, .bool xd, .bool xe])
    have HB5 := hide (HB4.out.trans (hal.mono HB4.out.size))
    clear hal HT4 HR4 HX4 HB4
    generalize w4.alloc (.cells #[.int .i64 xa, .int .i64 xb, .int .i64 xc, .bool xd, .bool xe] 28) = w5 at *
    refine (all_rows _ _ _ HT5.out).mono ?_
    rintro e w6 ⟨R', cap', rfl, hr, hb⟩
    have HR6 := hide (HR5.out.below hb)
    have hx6 := HX5.out.below hb HX5.out.lt
    have hy6 := HY5.out.below hb HY5.out.lt
    have HB6 := hide (HB5.out.trans (hb.mono HB5.out.size))
    obtain ⟨N', hN'⟩ : ∃ N', (vis (fillC c ⟨xa, xb, xc, xd, xe⟩) 8).length = N' := ⟨_, rfl⟩
    have hN8' : N' ≤ 8 := by rw [← hN']; exact vis_len _ 8
    rw [hN'] at hr ⊢
    have HRR := hide hr
    have HNN := hide hN'
    obtain ⟨x0, x1, x2, x3, x4⟩ := hx6.c5
    obtain ⟨y0, y1, y2, y3, y4⟩ := hy6.c5
    clear hr hb hN' HR5 HX5 HY5 HB5 HT5 hx6 hy6
    go_wp2_with fail
    go_loopw [10, 11] (fun s10 i wr => ∃ m l nd : Nat, m ≤ N ∧ s10 = .int .i64 l ∧ i = .int .i64 m ∧ l ≤ 1 ∧ (l = 1 → ∃ i', i' < m ∧ nth c i' = fillI c ⟨xa, xb, xc, xd, xe⟩) ∧ wr = w6.drewN nd) (fun _ i _ => N - (intOf i).toNat)
    case atStart => exact ⟨0, 0, 0, Nat.zero_le _, rfl, rfl, by omega, fun h => by omega, rfl⟩
    case round =>
      obtain ⟨m, l, nd, hm, rfl, rfl, hl1, hle, rfl⟩ := hrel
      have HLE := hide hle
      have l1 : (0 : Int) ≤ (l : Int) := by omega
      have l2 : (l : Int) ≤ 1 := by omega
      clear hle
      by_cases hlt : m < N
      · have hmN : m < (vis c 8).length := by rw [HN.out]; exact hlt
        obtain ⟨gr, rfl, _, _, hcell⟩ := HR6.out.resolve_left (by omega)
        obtain ⟨z0, z1, z2, z3, z4⟩ := hcell m hlt
        have i1 : (0 : Int) ≤ (m : Int) := by omega
        have i2 : (m : Int) < (N : Int) := by omega
        have HM := hide hmN
        clear hcell hmN
        go_wp2
        go_loopw [12, 13] (fun s12 k wr => ∃ (j : Nat) (b : Bool) (nd : Nat), j ≤ N' ∧ s12 = .bool b ∧ k = .int .i64 j ∧ ((∃ i', i' < j ∧ ts (fillC c ⟨xa, xb, xc, xd, xe⟩) i' = ts c m) → b = true) ∧ wr = w6.drewN nd) (fun _ k _ => N' - (intOf k).toNat)
        case atStart => exact ⟨0, false, nd, Nat.zero_le _, rfl, rfl, fun ⟨i', h, _⟩ => by omega, rfl⟩
        case round =>
          obtain ⟨j, b, nd2, hj, rfl, rfl, hin, rfl⟩ := hrel
          have HIN := hide hin
          clear hin
          by_cases hjl : j < N'
          · obtain ⟨gs, rfl, _, _, hcell⟩ := HRR.out.resolve_left (by omega)
            obtain ⟨t0, t1, t2, t3, t4⟩ := hcell j hjl
            have i3 : (0 : Int) ≤ (j : Int) := by omega
            have i4 : (j : Int) < (N' : Int) := by omega
            clear hcell
            cases b with
            | true =>
              go_wp2
              go_quiet (fail)
              go_wp2
              go_roundw
              case rel => exact ⟨j + 1, true, _, by omega, rfl, by simp, fun _ => rfl, rfl⟩
              case measure => simp [intOf]; omega
            | false =>
              cases f0 : (ts (fillC c ⟨xa, xb, xc, xd, xe⟩) j).sp == (ts c m).sp with
              | false =>
                go_wp2
                go_quiet (fail)
                go_wp2
                go_roundw
                case rel =>
                  refine ⟨j + 1, false, _, by omega, rfl, by simp, fun ⟨i', hi', he⟩ => ?_, rfl⟩
                  by_cases ej : i' = j
                  · rw [ej] at he
                    rw [he] at f0
                    simp at f0
                  · exact HIN.out ⟨i', by omega, he⟩
                case measure => simp [intOf]; omega
              | true =>
                cases f1 : (ts (fillC c ⟨xa, xb, xc, xd, xe⟩) j).pg == (ts c m).pg with
                | false =>
                  go_wp2
                  go_quiet (fail)
                  go_wp2
                  go_roundw
                  case rel =>
                    refine ⟨j + 1, false, _, by omega, rfl, by simp, fun ⟨i', hi', he⟩ => ?_, rfl⟩
                    by_cases ej : i' = j
                    · rw [ej] at he
                      rw [he] at f1
                      simp at f1
                    · exact HIN.out ⟨i', by omega, he⟩
                  case measure => simp [intOf]; omega
                | true =>
                  cases f2 : (ts (fillC c ⟨xa, xb, xc, xd, xe⟩) j).fr == (ts c m).fr with
                  | false =>
                    go_wp2
                    go_quiet (fail)
                    go_wp2
                    go_roundw
                    case rel =>
                      refine ⟨j + 1, false, _, by omega, rfl, by simp, fun ⟨i', hi', he⟩ => ?_, rfl⟩
                      by_cases ej : i' = j
                      · rw [ej] at he
                        rw [he] at f2
                        simp at f2
                      · exact HIN.out ⟨i', by omega, he⟩
                    case measure => simp [intOf]; omega
                  | true =>
                    cases f3 : (ts (fillC c ⟨xa, xb, xc, xd, xe⟩) j).rd == (ts c m).rd with
                    | false =>
                      go_wp2
                      go_quiet (fail)
                      go_wp2
                      go_roundw
                      case rel =>
                        refine ⟨j + 1, false, _, by omega, rfl, by simp, fun ⟨i', hi', he⟩ => ?_, rfl⟩
                        by_cases ej : i' = j
                        · rw [ej] at he
                          rw [he] at f3
                          simp at f3
                        · exact HIN.out ⟨i', by omega, he⟩
                      case measure => simp [intOf]; omega
                    | true =>
                      cases f4 : (ts (fillC c ⟨xa, xb, xc, xd, xe⟩) j).wr == (ts c m).wr with
                      | false =>
                        go_wp2
                        go_quiet (fail)
                        go_wp2
                        go_roundw
                        case rel =>
                          refine ⟨j + 1, false, _, by omega, rfl, by simp, fun ⟨i', hi', he⟩ => ?_, rfl⟩
                          by_cases ej : i' = j
                          · rw [ej] at he
                            rw [he] at f4
                            simp at f4
                          · exact HIN.out ⟨i', by omega, he⟩
                        case measure => simp [intOf]; omega
                      | true =>
                        have heq : (ts (fillC c ⟨xa, xb, xc, xd, xe⟩) j) = ts c m := by
                          generalize (ts (fillC c ⟨xa, xb, xc, xd, xe⟩) j) = u at *
                          generalize ts c m = v at *
                          obtain ⟨_, _, _, _, _⟩ := u
                          obtain ⟨_, _, _, _, _⟩ := v
                          simp at f0 f1 f2 f3 f4
                          simp [f0, f1, f2, f3, f4]
                        rw [heq] at t0 t1 t2 t3 t4
                        clear f0 f1 f2 f3 f4 heq
                        go_wp2
                        go_quiet (fail)
                        go_wp2
                        go_roundw
                        case rel => exact ⟨j + 1, true, _, by omega, rfl, by simp, fun _ => rfl, rfl⟩
                        case measure => simp [intOf]; omega
          · obtain rfl : j = N' := by omega
            cases b with
            | true =>
              cases e1 : (ts c m).sp == xa with
              | true =>
                cases e2 : (ts c m).pg == xb with
                | true =>
                  go_wp2
                  go_quiet (fail)
                  go_wp2
                  go_roundw
                  case rel => exact ⟨m + 1, l, _, by omega, rfl, by simp, by omega, fun h => by obtain ⟨i', h1, h2⟩ := HLE.out h; exact ⟨i', by omega, h2⟩, rfl⟩
                  case measure => simp [intOf]; omega
                | false =>
                  go_wp2
                  go_quiet (fail)
                  go_wp2
                  go_roundw
                  case rel => exact ⟨m + 1, l, _, by omega, rfl, by simp, by omega, fun h => by obtain ⟨i', h1, h2⟩ := HLE.out h; exact ⟨i', by omega, h2⟩, rfl⟩
                  case measure => simp [intOf]; omega
              | false =>
                go_wp2
                go_quiet (fail)
                go_wp2
                go_roundw
                case rel => exact ⟨m + 1, l, _, by omega, rfl, by simp, by omega, fun h => by obtain ⟨i', h1, h2⟩ := HLE.out h; exact ⟨i', by omega, h2⟩, rfl⟩
                case measure => simp [intOf]; omega
            | false =>
              have hfi : nth c m = fillI c ⟨xa, xb, xc, xd, xe⟩ := Classical.byContradiction fun hne => by
                obtain ⟨k, hk, hke⟩ := Good.kept HMF.out HM.out hne
                have := HIN.out ⟨k, by have := HNN.out; omega, hke⟩
                cases this
              obtain ⟨p, hp, hp5, hp4⟩ := HG.out.set_ (m := m) HM.out
              have hset := fillI_set c ⟨xa, xb, xc, xd, xe⟩
              rw [← hfi, ← hp4] at hset
              have hxb0 : 0 ≤ xb := HMF.out.2.1
              have hset2 : p % 4 = xb.toNat % 4 := hset
              obtain ⟨q, hq⟩ : ∃ q, p % 4 = q := ⟨_, rfl⟩
              have htp : (p : Int).tmod 4 = (q : Int) := by rw [Int.tmod_eq_emod_of_nonneg (by omega)]; omega
              have htx : xb.tmod 4 = (q : Int) := by rw [Int.tmod_eq_emod_of_nonneg hxb0]; omega
              have hl0 : l = 0 ∨ l = 1 := by omega
              have HFI := hide hfi
              have q1 : (0 : Int) ≤ (q : Int) := by omega
              have q2 : (q : Int) < 4 := by omega
              rw [hp] at z1
              clear hfi hset hset2 hq hp5 hp4 hxb0
              cases e1 : (ts c m).sp == xa with
              | true =>
                cases e2 : (p : Int) == xb with
                | true =>
                  go_wp2
                  go_quiet (fail)
                  go_wp2
                  go_roundw
                  case rel => exact ⟨m + 1, l, _, by omega, rfl, by simp, by omega, fun h => by obtain ⟨i', h1, h2⟩ := HLE.out h; exact ⟨i', by omega, h2⟩, rfl⟩
                  case measure => simp [intOf]; omega
                | false =>
                  have hl00 : l = 0 := by
                    rcases hl0 with h | h
                    · exact h
                    · obtain ⟨i', h1, h2⟩ := HLE.out h
                      have := nth_mono (c := c) h1 HM.out
                      have := HFI.out
                      omega
                  subst hl00
                  go_wp2
                  go_quiet (fail)
                  go_wp2
                  go_quiet (fail)
                  go_wp2
                  go_roundw
                  case rel => exact ⟨m + 1, 1, _, by omega, rfl, by simp, by omega, fun _ => ⟨m, by omega, HFI.out⟩, rfl⟩
                  case measure => simp [intOf]; omega
              | false =>
                have hl00 : l = 0 := by
                  rcases hl0 with h | h
                  · exact h
                  · obtain ⟨i', h1, h2⟩ := HLE.out h
                    have := nth_mono (c := c) h1 HM.out
                    have := HFI.out
                    omega
                subst hl00
                go_wp2
                go_quiet (fail)
                go_wp2
                go_quiet (fail)
                go_wp2
                go_roundw
                case rel => exact ⟨m + 1, 1, _, by omega, rfl, by simp, by omega, fun _ => ⟨m, by omega, HFI.out⟩, rfl⟩
                case measure => simp [intOf]; omega
      · obtain rfl : m = N := by omega
        go_wp2_with fail
        have hq := Below.drewN6 w6 nd
        refine (awake6 _).mono ?_
        rintro e w7 ⟨rfl, hb⟩
        have HB7 := hide (HB6.out.trans ((hq.trans (hb.mono hq.size)).mono HB6.out.size))
        clear hb hq
        go_wp2_with fail
        go_ret
        exact ⟨rfl, HB7.out⟩
  · go_wp2_with fail
    refine (fill_any gc c ⟨xa, xb, xc, xd, xe⟩ w2 HT2.out HG.out.ok).mono ?_
    rintro e w3 ⟨rfl, hT3, hm3⟩
    rw [fillE_bad hx]
    rw [fillC_bad hx] at hT3
    have HT3 := hide hT3
    have HR3 := hide (HR.out.mod hm3 (fun k e => by omega))
    have HB3 := hide (below_mod HB2.out (Nat.le_refl _) hm3 (fun k e => by have := HBX.out; omega))
    clear hT3 hm3 HT2 HR HB2 HX2 x0 x1 x2 x3 x4 hl2 hx
    go_wp2_with fail
    refine (all_rows _ _ _ HT3.out).mono ?_
    rintro e w4 ⟨R', cap', rfl, hr, hb⟩
    rw [HN.out] at hr ⊢
    have HR4 := hide (HR3.out.below hb)
    have HRR := hide hr
    have HB4 := hide (HB3.out.trans (hb.mono HB3.out.size))
    clear hr hb HR3 HT3 HB3
    go_wp2_with fail
    refine (sameTrans_yes _ _ _ _ _ _ _ _ _ (by omega) HRR.out HR4.out).mono ?_
    rintro e w5 ⟨rfl, hb⟩
    have HB5 := hide (HB4.out.trans (hb.mono HB4.out.size))
    clear hb HB4 HR4 HRR
    go_wp2_with fail
    refine (awake6 _).mono ?_
    rintro e w6 ⟨rfl, hb⟩
    have HB6 := hide (HB5.out.trans (hb.mono HB5.out.size))
    clear hb HB5
    go_wp2_with fail
    go_ret
    exact ⟨rfl, HB6.out⟩
end Go.Proofs.Ytfjhchcnhmafkaa
