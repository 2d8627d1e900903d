/- The walk of TlbOnce: it returns true. -/
import Derived.Test.YtfjhchcnhmafkaaLaw6
import Derived.Test.YtfjhchcnhmafkaaTlbR
import Derived.Test.YtfjhchcnhmafkaaLaw0
namespace Go.Proofs.Ytfjhchcnhmafkaa
open Go.RowKit Go.Shelf
/-- How many of the first m translations lie in a set. -/
def cnq (c : Cache) (q m : Nat) : Nat := (((vis c 8).take m).filter fun i => i / 2 == q).length
theorem cnq_zero (c : Cache) (q : Nat) : cnq c q 0 = 0 := by simp [cnq]
theorem cnq_next {c : Cache} {q m : Nat} (h : m < (vis c 8).length) : cnq c q (m + 1) = cnq c q m + if nth c m / 2 = q then 1 else 0 := by
  unfold cnq
  rw [take_nth h, List.filter_append, List.length_append]
  by_cases e : nth c m / 2 = q
  · rw [if_pos e]; simp [e]
  · rw [if_neg e]; simp [e]
theorem cnq_le (c : Cache) (q m : Nat) (hq : q < 4) : cnq c q m ≤ 2 := by
  have h1 : cnq c q m ≤ ((List.range 8).filter fun i => i / 2 == q).length := (((List.take_sublist m (vis c 8)).trans List.filter_sublist).filter _).length_le
  have h2 : ((List.range 8).filter fun i => i / 2 == q).length = 2 := by
    match q, hq with
    | 0, _ | 1, _ | 2, _ | 3, _ => decide
  omega
/-- The counts in memory. -/
def CntAt (c : Cache) (w : World) (b m : Nat) : Prop := ∃ cs : Array Value, Blk w b 59 cs ∧ cs.size = 4 ∧ ∀ q, q < 4 → cs[q]? = some (.int .i64 (cnq c q m))
theorem CntAt.lt {c : Cache} {w : World} {b m : Nat} (h : CntAt c w b m) : b < w.heap.size := by obtain ⟨cs, hb, _⟩ := h; exact hb.lt
theorem CntAt.cell {c : Cache} {w : World} {b m : Nat} (h : CntAt c w b m) (q : Nat) (hq : q < 4) : w.cell? ⟨b, q, none⟩ = some (.int .i64 (cnq c q m)) := by
  obtain ⟨cs, hb, _, hc⟩ := h
  exact (hb.cell _).trans (hc q hq)
theorem CntAt.frozen {c : Cache} {w : World} {b m : Nat} (h : CntAt c w b m) (j : Nat) : w.frozen? ⟨b, j, none⟩ = false := by
  obtain ⟨cs, hb, _⟩ := h
  exact hb.frozen j
theorem CntAt.below {c : Cache} {w w' : World} {b m : Nat} (h : CntAt c w b m) (hb : Below w.heap.size w w') : CntAt c w' b m := by
  obtain ⟨cs, h1, h2⟩ := h
  exact ⟨cs, h1.below hb h1.lt, h2⟩
theorem CntAt.next {c : Cache} {w : World} {b m q : Nat} (h : CntAt c w b m) (hm : m < (vis c 8).length) (hq : nth c m / 2 = q) : CntAt c (w.setCell ⟨b, q, none⟩ (.int .i64 ((cnq c q m : Nat) + 1 : Int))) b (m + 1) := by
  obtain ⟨cs, hb, hz, hc⟩ := h
  have hq4 : q < 4 := by have := (nth_lt hm).1; omega
  refine ⟨_, hb.set_ q _, by simpa using hz, fun p hp => ?_⟩
  rw [cnq_next hm]
  by_cases e : p = q
  · subst e
    rw [Array.getElem?_setIfInBounds_self, if_pos (by omega), if_pos hq]
    push_cast
    rfl
  · rw [Array.getElem?_setIfInBounds_ne (by omega), if_neg (by omega), Nat.add_zero]
    exact hc p hp
theorem Good.set_ {c : Cache} (h : Good c) {m : Nat} (hm : m < (vis c 8).length) : ∃ p : Nat, (ts c m).pg = (p : Int) ∧ p < 512 ∧ p % 4 = nth c m / 2 := by
  obtain ⟨h8, h0⟩ := nth_lt hm
  obtain ⟨hx, hs⟩ := h.may _ h8 h0
  obtain ⟨p, hp⟩ := Int.eq_ofNat_of_zero_le hx.2.1
  have h512 := hx.2.2.1
  refine ⟨p, hp, ?_, ?_⟩
  · rw [hp] at h512; omega
  · rw [hp] at hs; exact hs
theorem Below.drewN' (w : World) (k : Nat) : Below w.heap.size w (w.drewN k) := below_drewN (Below.refl _ _) k
set_option maxRecDepth 100000 in
set_option maxHeartbeats 8000000 in
theorem law_TlbOnce (w : World) (A : Option Addr) (n ca : Nat) (xs : Nat → Act6) (hA : Acts6 w A n xs) (hn : n ≤ 9223372036854775807) :
    Calls Try.prog 8 #[.slice A n ca] w fun e w' => e = .returned (.bool true) ∧ Below w.heap.size w w' := by
  have HA := hide hA
  clear hA
  by_cases h1 : 120 < n
  · go_enter Try.func8, Try.ntmps8
    go_wp2_with fail
    refine (awake6 _).mono ?_
    rintro e w1 ⟨rfl, hb⟩
    have HB := hide hb
    clear hb
    go_wp2_with fail
    go_ret
    exact ⟨rfl, HB.out⟩
  have hn1 : n ≤ 120 := by omega
  go_enter Try.func8, Try.ntmps8
  go_wp2_with fail
  refine (played_any w A n ca xs HA.out hn).mono ?_
  rintro e w1 ⟨rfl, ⟨c, hT, hG⟩, hb⟩
  have HT := hide hT
  have HG := hide hG
  have HB := hide hb
  have hl := hT.lt
  clear hT hG hb
  go_wp2_with fail
  refine (all_rows _ _ _ HT.out).mono ?_
  rintro e w2 ⟨R, cap, rfl, hr, hb⟩
  have HB2 := hide (HB.out.trans (hb.mono HB.out.size))
  have HR := hide hr
  obtain ⟨N, hN⟩ : ∃ N, (vis c 8).length = N := ⟨_, rfl⟩
  have hN8 : N ≤ 8 := by rw [← hN]; exact vis_len c 8
  rw [hN]
  have HN := hide hN
  clear hb HT HB hN hr
  rw [HN.out] at HR
  go_wp2_with fail
  generalize w1.heap.size = B0 at *
  have hr3 := HR.out.below ((Below.refl w2.heap.size w2).alloc (Nat.le_refl _) (.cells #[.int .i64 0, .int .i64 0, .int .i64 0, .int .i64 0] 59))
  have hB3 := HB2.out.alloc HB2.out.size (.cells #[.int .i64 0, .int .i64 0, .int .i64 0, .int .i64 0] 59)
  have hC3 : CntAt c (w2.alloc (.cells #[.int .i64 0, .int .i64 0, .int .i64 0, .int .i64 0] 59)) w2.heap.size 0 := ⟨_, Blk.new w2 _ _, rfl, fun q hq => by
    rw [cnq_zero]
    match q, hq with
    | 0, _ | 1, _ | 2, _ | 3, _ => rfl⟩
  have hsz := HB2.out.size
  have HR3 := hide hr3
  have HB3 := hide hB3
  have HC3 := hide hC3
  have hRb : ∀ g, R = some ⟨g, 0, none⟩ → N ≠ 0 → g < w2.heap.size := fun g e h0 => by
    obtain ⟨g', h1, _, h3, _⟩ := HR.out.resolve_left h0
    rw [e] at h1
    simp at h1
    omega
  have HRB := hide hRb
  clear hr3 hB3 hC3 HR HB2 hRb
  go_wp2_with fail
  generalize w2.heap.size = bn at *
  go_loopw [6] (fun i wr => ∃ m : Nat, m ≤ N ∧ i = .int .i64 m ∧ RowsAt wr B0 R N (ts c) ∧ CntAt c wr bn m ∧ Below w.heap.size w wr) (fun i _ => N - (intOf i).toNat)
  case atStart => exact ⟨0, Nat.zero_le _, rfl, HR3.out, HC3.out, HB3.out⟩
  case round =>
    obtain ⟨m, hm, rfl, hr, hc, hb⟩ := hrel
    have HR4 := hide hr
    have HC4 := hide hc
    have HB4 := hide hb
    have hlb := hc.lt
    clear hr hc hb HR3 HC3 HB3
    by_cases hlt : m < N
    · obtain ⟨p, hp, hp5, hp4⟩ := HG.out.set_ (m := m) (by rw [HN.out]; exact hlt)
      have hmN : m < (vis c 8).length := by rw [HN.out]; exact hlt
      obtain ⟨gr, rfl, hBg, hgl, hcell⟩ := HR4.out.resolve_left (by omega)
      have hgn := HRB.out gr rfl (by omega)
      obtain ⟨_, p1, _, _, _⟩ := hcell m hlt
      rw [hp] at p1
      obtain ⟨q, hq⟩ : ∃ q, nth c m / 2 = q := ⟨_, rfl⟩
      have hq4 : q < 4 := by have := (nth_lt hmN).1; omega
      have hlow : lowV (p : Int) 4 = (q : Int) := by unfold lowV; omega
      have k0 := HC4.out.cell q hq4
      have k1 := HC4.out.frozen q
      have i1 : (0 : Int) ≤ (m : Int) := by omega
      have i2 : (m : Int) < (N : Int) := by omega
      have i3 : (0 : Int) ≤ (q : Int) := by omega
      have i4 : (q : Int) < 4 := by omega
      have hcl := cnq_le c q m hq4
      have i5 : (0 : Int) ≤ ((cnq c q m : Nat) : Int) := by omega
      have i6 : ((cnq c q m : Nat) : Int) ≤ 2 := by omega
      have HQ := hide hq
      have HL := hide hlow
      have HM := hide hmN
      clear hcell hq hlow hmN hp hp4
      go_wp2_with fail
      refine (low_any _ 4 _ (by decide) (by decide)).mono ?_
      rintro e w' ⟨rfl, rfl⟩
      rw [HL.out]
      go_wp2_with fail
      have hm6 := Mod.one bn wr q (.int .i64 ((cnq c q m : Nat) + 1 : Int))
      have hc5 := HC4.out.next HM.out HQ.out
      have hr5 := HR4.out.mods hm6 (show ¬ gr = bn by omega)
      have hb5 := below_mod HB4.out (Nat.le_refl _) hm6 (fun k e => by omega)
      clear hm6 HC4 HR4 HB4 k0 k1 p1 hlb hgl i3 i4 i5 i6 hcl
      generalize wr.setCell ⟨bn, q, none⟩ (.int .i64 ((cnq c q m : Nat) + 1 : Int)) = W5 at hc5 hr5 hb5 ⊢
      have HC5 := hide hc5
      have HR5 := hide hr5
      have HB5 := hide hb5
      clear hc5 hr5 hb5
      go_loopw [7] (fun i wz => ∃ j : Nat, j ≤ m ∧ i = .int .i64 j ∧ RowsAt wz B0 (some ⟨gr, 0, none⟩) N (ts c) ∧ CntAt c wz bn (m + 1) ∧ Below w.heap.size w wz) (fun i _ => m - (intOf i).toNat)
      case atStart => exact ⟨0, Nat.zero_le _, rfl, HR5.out, HC5.out, HB5.out⟩
      case round =>
        obtain ⟨j, hj, rfl, hr, hc, hb⟩ := hrel
        have HR6 := hide hr
        have HC6 := hide hc
        have HB6 := hide hb
        clear hr hc hb HR5 HC5 HB5
        by_cases hjm : j < m
        · obtain ⟨a, ha, ha5, ha4⟩ := HG.out.set_ (m := j) (by rw [HN.out]; omega)
          obtain ⟨b, hb, hb5, hb4⟩ := HG.out.set_ (m := m) HM.out
          obtain ⟨gr', hge, _, hgl, hcell⟩ := HR6.out.resolve_left (by omega)
          obtain rfl : gr = gr' := by simpa using hge
          obtain ⟨x0, x1, _, _, _⟩ := hcell j (by omega)
          obtain ⟨y0, y1, _, _, _⟩ := hcell m hlt
          have hmono := nth_mono (c := c) hjm HM.out
          have hne : ¬ ((ts c j).sp = (ts c m).sp ∧ (ts c j).pg = (ts c m).pg) := fun e => by
            have h8 := nth_lt (c := c) (i := j) (by rw [HN.out]; omega)
            have := HG.out.one (nth c j) (nth c m) h8.1 (nth_lt HM.out).1 h8.2 e.1 e.2
            omega
          rw [ha, hb] at hne
          rw [ha] at x1
          rw [hb] at y1
          have hta : (a : Int).tmod 4 = ((a % 4 : Nat) : Int) := by rw [Int.tmod_eq_emod_of_nonneg (by omega)]; rfl
          have htb : (b : Int).tmod 4 = ((b % 4 : Nat) : Int) := by rw [Int.tmod_eq_emod_of_nonneg (by omega)]; rfl
          obtain ⟨aq, haq⟩ : ∃ aq, a % 4 = aq := ⟨_, rfl⟩
          obtain ⟨bq, hbq⟩ : ∃ bq, b % 4 = bq := ⟨_, rfl⟩
          rw [haq] at hta
          rw [hbq] at htb
          have hab : (aq : Int) ≤ (bq : Int) := by omega
          have i3 : (0 : Int) ≤ (j : Int) := by omega
          have i4 : (j : Int) < (N : Int) := by omega
          have i5 : (j : Int) < (m : Int) := by omega
          have i6 : (0 : Int) ≤ (aq : Int) := by omega
          have i7 : (bq : Int) < 4 := by omega
          clear ha hb ha4 hb4 hcell hmono haq hbq hge
          cases e1 : (ts c j).sp == (ts c m).sp with
          | true =>
            have e2 : ((a : Int) == (b : Int)) = false := by
              cases e3 : ((a : Int) == (b : Int)) with
              | false => rfl
              | true => exact (hne ⟨by simpa using e1, by simpa using e3⟩).elim
            clear hne
            go_wp2
            go_quiet (fail)
            have hm7 := (Mod.refl (fun _ => False) wr).drewN nq
            have HR7 := hide (HR6.out.mods hm7 (fun h => h))
            have HC7 := hide (HC6.out.below (Below.drewN' wr nq))
            have HB7 := hide (below_mod HB6.out (Nat.le_refl _) hm7 (fun k h => h.elim))
            clear hm7 HR6 HC6 HB6
            go_wp2
            go_roundw
            case rel => exact ⟨j + 1, by omega, by simp, HR7.out, HC7.out, HB7.out⟩
            case measure => simp [intOf]; omega
          | false =>
            clear hne
            go_wp2
            go_quiet (fail)
            have hm7 := (Mod.refl (fun _ => False) wr).drewN nq
            have HR7 := hide (HR6.out.mods hm7 (fun h => h))
            have HC7 := hide (HC6.out.below (Below.drewN' wr nq))
            have HB7 := hide (below_mod HB6.out (Nat.le_refl _) hm7 (fun k h => h.elim))
            clear hm7 HR6 HC6 HB6
            go_wp2
            go_roundw
            case rel => exact ⟨j + 1, by omega, by simp, HR7.out, HC7.out, HB7.out⟩
            case measure => simp [intOf]; omega
        · obtain rfl : j = m := by omega
          go_wp2
          go_roundw
          case rel => exact ⟨j + 1, by omega, by simp, HR6.out, HC6.out, HB6.out⟩
          case measure => simp [intOf]; omega
    · obtain rfl : m = N := by omega
      have z0 := HC4.out.cell 0 (by decide)
      have z1 := HC4.out.cell 1 (by decide)
      have z2 := HC4.out.cell 2 (by decide)
      have z3 := HC4.out.cell 3 (by decide)
      have y0 : ((cnq c 0 m : Nat) : Int) ≤ 2 := by have := cnq_le c 0 m (by decide); omega
      have y1 : ((cnq c 1 m : Nat) : Int) ≤ 2 := by have := cnq_le c 1 m (by decide); omega
      have y2 : ((cnq c 2 m : Nat) : Int) ≤ 2 := by have := cnq_le c 2 m (by decide); omega
      have y3 : ((cnq c 3 m : Nat) : Int) ≤ 2 := by have := cnq_le c 3 m (by decide); omega
      go_wp2_with fail
      refine (awake6 _).mono ?_
      rintro e w5 ⟨rfl, hb⟩
      have HB5 := hide (HB4.out.trans (hb.mono HB4.out.size))
      clear hb HB4
      go_wp2_with fail
      go_ret
      exact ⟨rfl, HB5.out⟩
end Go.Proofs.Ytfjhchcnhmafkaa
