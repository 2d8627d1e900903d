/- The walk of TlbLast: it returns true. -/
import Derived.Test.YtfjhchcnhmafkaaLaw6
import Derived.Test.YtfjhchcnhmafkaaTlbL
import Derived.Test.YtfjhchcnhmafkaaLaw0
namespace Go.Proofs.Ytfjhchcnhmafkaa
open Go.RowKit Go.Shelf
set_option maxRecDepth 100000 in
set_option maxHeartbeats 8000000 in
theorem law_TlbLast (sa ka fa na : Int) (_ : (Lit.int .i64 sa).wf = true) (_ : (Lit.int .i64 ka).wf = true) (_ : (Lit.int .i64 fa).wf = true) (_ : (Lit.int .i64 na).wf = true) (w : World) :
    Calls Try.prog 3 #[.int .i64 sa, .int .i64 ka, .int .i64 fa, .int .i64 na] w fun e w' => e = .returned (.bool true) ∧ Below w.heap.size w w' := by
  obtain ⟨s0, hs0⟩ := Int.eq_ofNat_of_zero_le (low_bd sa (n := 1000) (by decide)).1
  obtain ⟨k, hk⟩ := Int.eq_ofNat_of_zero_le (low_bd ka (n := 4) (by decide)).1
  obtain ⟨f, hf⟩ := Int.eq_ofNat_of_zero_le (low_bd fa (n := 128) (by decide)).1
  obtain ⟨n0, hn0⟩ := Int.eq_ofNat_of_zero_le (low_bd na (n := 60) (by decide)).1
  have s1000 : s0 < 1000 := by have := (low_bd sa (n := 1000) (by decide)).2; omega
  have k4 : k < 4 := by have := (low_bd ka (n := 4) (by decide)).2; omega
  have f128 : f < 128 := by have := (low_bd fa (n := 128) (by decide)).2; omega
  have n60 : n0 < 60 := by have := (low_bd na (n := 60) (by decide)).2; omega
  have z0 : (0 : Int) ≤ (s0 : Int) := by omega
  have z1 : (s0 : Int) < 1000 := by omega
  have z2 : (0 : Int) ≤ (n0 : Int) := by omega
  have z3 : (n0 : Int) < 60 := by omega
  have HS0 := hide hs0
  have HK := hide hk
  have HF := hide hf
  have HN := hide hn0
  clear hs0 hk hf hn0
  obtain ⟨s, hs⟩ : ∃ s : Nat, s = 1 + s0 := ⟨_, rfl⟩
  obtain ⟨n, hn⟩ : ∃ n : Nat, n = 1 + n0 := ⟨_, rfl⟩
  have hs1 : 1 ≤ s := by omega
  have hs2 : s ≤ 1000 := by omega
  have hn2 : n ≤ 60 := by omega
  have HSS := hide hs
  have HNN := hide hn
  clear hs hn
  go_enter Try.func3, Try.ntmps3
  go_wp2_with fail
  refine (tnew_any _).mono ?_
  rintro e w1 ⟨rfl, hT, hb⟩
  have HT := hide hT
  have HB := hide hb
  have hl := hT.lt
  clear hT hb
  go_wp2_with fail
  refine (low_any sa 1000 _ (by decide) (by decide)).mono ?_
  rintro e w' ⟨rfl, rfl⟩
  rw [HS0.out]
  go_wp2_with fail
  refine (low_any na 60 _ (by decide) (by decide)).mono ?_
  rintro e w' ⟨rfl, rfl⟩
  rw [HN.out]
  go_wp2_with fail
  refine (low_any ka 4 _ (by decide) (by decide)).mono ?_
  rintro e w' ⟨rfl, rfl⟩
  rw [HK.out]
  go_wp2_with fail
  have es : (1 : Int) + (s0 : Int) = (s : Int) := by have := HSS.out; omega
  have en : (1 : Int) + (n0 : Int) = (n : Int) := by have := HNN.out; omega
  rw [es, en]
  clear es en HSS HNN s1000 n60 HS0 HN HK z0 z1 z2 z3
  go_loopw [13] (fun i wr => ∃ (m : Nat) (c : Cache), m ≤ n ∧ i = .int .i64 m ∧ TlbAt wr w.heap.size c ∧ Last s f k m c ∧ Below w.heap.size w wr) (fun i _ => n - (intOf i).toNat)
  case atStart => exact ⟨0, _, Nat.zero_le _, rfl, HT.out, Last.zero s f k, HB.out⟩
  case round =>
    obtain ⟨m, c, hm, rfl, hT, hL, hB⟩ := hrel
    have HT2 := hide hT
    have HL := hide hL
    have HB2 := hide hB
    clear hT hL hB HT HB
    by_cases hlt : m < n
    · have i1 : (0 : Int) ≤ (m : Int) := by omega
      have i2 : (m : Int) < (n : Int) := by omega
      go_wp2_with fail
      refine (low_any fa 128 _ (by decide) (by decide)).mono ?_
      rintro e w' ⟨rfl, rfl⟩
      rw [HF.out]
      go_wp2_with fail
      have hP : 4 * (((f : Int) + (m : Int)) % 128) + (k : Int) = ((pgL f k m : Nat) : Int) := by unfold pgL; omega
      rw [hP]
      clear hP
      have hp0 : (0 : Int) ≤ ((pgL f k m : Nat) : Int) := by omega
      have hp1 : ((pgL f k m : Nat) : Int) < 512 := by have := pgL_lt f k m k4; omega
      refine (fill_any _ _ (trX s f k m) _ HT2.out HL.out.ok).mono ?_
      rintro e w2 ⟨rfl, hT, hm2⟩
      rw [fillE_good (mayX s f k m hs1 k4)]
      have HT3 := hide hT
      have HB3 := hide (below_mod HB2.out (Nat.le_refl _) hm2 (fun k hk => by omega))
      clear hT hm2 HT2 HB2
      go_wp2_with fail
      refine (fill_any _ _ (trY s f k m) _ HT3.out (fillC_ok HL.out.ok _)).mono ?_
      rintro e w3 ⟨rfl, hT, hm2⟩
      rw [fillE_good (mayY s f k m hs1 k4)]
      have HT4 := hide hT
      have HB4 := hide (below_mod HB3.out (Nat.le_refl _) hm2 (fun k hk => by omega))
      have HL4 := hide (HL.out.next hs1 k4)
      clear hT hm2 HT3 HB3 HL
      generalize fillC (fillC c (trX s f k m)) (trY s f k m) = c4 at *
      rcases (show m = 0 ∨ m = 1 ∨ 2 ≤ m by omega) with hc | hc | hc
      · subst hc
        have hlen : (vis c4 8).length = 2 := by rw [HL4.out.len hs1 k4]; omega
        have HLEN := hide hlen
        clear hlen
        go_wp2_with fail
        have HT6 := HT4
        have HB6 := HB4
        clear HT4 HB4
        generalize w3 = w6 at *
        have hth := HL4.out.there (j := 0) hs1 k4 (by omega) (by omega)
        refine (find_in _ _ _ _ _ HT6.out).mono ?_
        rintro e w7 ⟨rfl, hb⟩
        rw [hth.1, hth.2]
        have HT7 := hide (HT6.out.below hb HT6.out.lt)
        have HB7 := hide (HB6.out.trans (hb.mono HB6.out.size))
        clear hb hth HT6 HB6
        rw [show (trX s f k 0).row = #[.int .i64 s, .int .i64 ((pgL f k 0 : Nat) : Int), .int .i64 (((pgL f k 0 : Nat) : Int) % 64), .bool true, .bool false] from rfl]
        go_wp2_with fail
        have HT8 := hide (HT7.out.below ((Below.refl _ w7).alloc (Nat.le_refl _) (.cells #[.int .i64 s, .int .i64 ((pgL f k 0 : Nat) : Int), .int .i64 (((pgL f k 0 : Nat) : Int) % 64), .bool true, .bool false] 28)) HT7.out.lt)
        have HB8 := hide (HB7.out.alloc HB7.out.size (.cells #[.int .i64 s, .int .i64 ((pgL f k 0 : Nat) : Int), .int .i64 (((pgL f k 0 : Nat) : Int) % 64), .bool true, .bool false] 28))
        clear HT7 HB7
        refine (all_of _ _ _ HT8.out).mono ?_
        rintro e w9 ⟨v, rfl, hrow, hb⟩
        have HT9 := hide (HT8.out.below hb HT8.out.lt)
        have HB9 := hide (HB8.out.trans (hb.mono HB8.out.size))
        rw [HLEN.out] at hrow
        rcases hrow.2 with ⟨_, h0⟩ | ⟨g', cap, cur, rfl, _⟩
        · exact absurd h0 (by decide)
        clear hrow hb HT8 HB8
        go_wp2_with fail
        have HTb := HT9
        have HBb := HB9
        go_roundw
        case rel => exact ⟨0 + 1, _, by omega, by simp, HTb.out, HL4.out, HBb.out⟩
        case measure => simp [intOf]; omega
      · subst hc
        have hlen : (vis c4 8).length = 4 := by rw [HL4.out.len hs1 k4]; omega
        have HLEN := hide hlen
        clear hlen
        go_wp2_with fail
        have HT6 := HT4
        have HB6 := HB4
        clear HT4 HB4
        generalize w3 = w6 at *
        have hth := HL4.out.there (j := 1) hs1 k4 (by omega) (by omega)
        refine (find_in _ _ _ _ _ HT6.out).mono ?_
        rintro e w7 ⟨rfl, hb⟩
        rw [hth.1, hth.2]
        have HT7 := hide (HT6.out.below hb HT6.out.lt)
        have HB7 := hide (HB6.out.trans (hb.mono HB6.out.size))
        clear hb hth HT6 HB6
        rw [show (trX s f k 1).row = #[.int .i64 s, .int .i64 ((pgL f k 1 : Nat) : Int), .int .i64 (((pgL f k 1 : Nat) : Int) % 64), .bool true, .bool false] from rfl]
        go_wp2_with fail
        have HT8 := hide (HT7.out.below ((Below.refl _ w7).alloc (Nat.le_refl _) (.cells #[.int .i64 s, .int .i64 ((pgL f k 1 : Nat) : Int), .int .i64 (((pgL f k 1 : Nat) : Int) % 64), .bool true, .bool false] 28)) HT7.out.lt)
        have HB8 := hide (HB7.out.alloc HB7.out.size (.cells #[.int .i64 s, .int .i64 ((pgL f k 1 : Nat) : Int), .int .i64 (((pgL f k 1 : Nat) : Int) % 64), .bool true, .bool false] 28))
        clear HT7 HB7
        refine (all_of _ _ _ HT8.out).mono ?_
        rintro e w9 ⟨v, rfl, hrow, hb⟩
        have HT9 := hide (HT8.out.below hb HT8.out.lt)
        have HB9 := hide (HB8.out.trans (hb.mono HB8.out.size))
        rw [HLEN.out] at hrow
        rcases hrow.2 with ⟨_, h0⟩ | ⟨g', cap, cur, rfl, _⟩
        · exact absurd h0 (by decide)
        clear hrow hb HT8 HB8
        go_wp2_with fail
        refine (low_any fa 128 _ (by decide) (by decide)).mono ?_
        rintro e w' ⟨rfl, rfl⟩
        rw [HF.out]
        go_wp2_with fail
        rw [show 4 * ((f : Int) % 128) + (k : Int) = ((pgL f k 0 : Nat) : Int) by unfold pgL; omega]
        have hth := HL4.out.there (j := 0) hs1 k4 (by omega) (by omega)
        refine (find_in _ _ _ _ _ HT9.out).mono ?_
        rintro e wa ⟨rfl, hb⟩
        rw [hth.1, hth.2]
        have HTa := hide (HT9.out.below hb HT9.out.lt)
        have HBa := hide (HB9.out.trans (hb.mono HB9.out.size))
        clear hb hth HT9 HB9
        rw [show (trX s f k 0).row = #[.int .i64 s, .int .i64 ((pgL f k 0 : Nat) : Int), .int .i64 (((pgL f k 0 : Nat) : Int) % 64), .bool true, .bool false] from rfl]
        go_wp2_with fail
        have HTb := hide (HTa.out.below ((Below.refl _ wa).alloc (Nat.le_refl _) (.cells #[.int .i64 s, .int .i64 ((pgL f k 0 : Nat) : Int), .int .i64 (((pgL f k 0 : Nat) : Int) % 64), .bool true, .bool false] 28)) HTa.out.lt)
        have HBb := hide (HBa.out.alloc HBa.out.size (.cells #[.int .i64 s, .int .i64 ((pgL f k 0 : Nat) : Int), .int .i64 (((pgL f k 0 : Nat) : Int) % 64), .bool true, .bool false] 28))
        go_roundw
        case rel => exact ⟨1 + 1, _, by omega, by simp, HTb.out, HL4.out, HBb.out⟩
        case measure => simp [intOf]; omega
      · have i3 : (1 : Int) < (m : Int) := by omega
        have i4 : (0 : Int) < (m : Int) := by omega
        have hlen : (vis c4 8).length = 4 := by rw [HL4.out.len hs1 k4]; omega
        have HLEN := hide hlen
        clear hlen
        go_wp2_with fail
        refine (low_any fa 128 _ (by decide) (by decide)).mono ?_
        rintro e w' ⟨rfl, rfl⟩
        rw [HF.out]
        go_wp2_with fail
        rw [show 4 * (((f : Int) + (m : Int) - 2) % 128) + (k : Int) = ((pgL f k (m - 2) : Nat) : Int) by unfold pgL; omega]
        have hgone : findOk c4 s (pgL f k (m - 2)) = false := Last.gone (m := m - 2) (by rw [show m - 2 + 3 = m + 1 by omega]; exact HL4.out) k4
        refine (find_in _ _ _ _ _ HT4.out).mono ?_
        rintro e w5 ⟨rfl, hb⟩
        rw [hgone]
        have HT5 := hide (HT4.out.below hb HT4.out.lt)
        have HB5 := hide (HB4.out.trans (hb.mono HB4.out.size))
        clear hb hgone HT4 HB4
        generalize findTr c4 s (pgL f k (m - 2)) = tq at *
        obtain ⟨ta, tb, tc, td, te⟩ := tq
        unfold Tr.row
        go_wp2_with fail
        have HT6 := hide (HT5.out.below ((Below.refl _ w5).alloc (Nat.le_refl _) (.cells #[.int .i64 ta, .int .i64 tb, .int .i64 tc, .bool td, .bool te] 28)) HT5.out.lt)
        have HB6 := hide (HB5.out.alloc HB5.out.size (.cells #[.int .i64 ta, .int .i64 tb, .int .i64 tc, .bool td, .bool te] 28))
        clear HT5 HB5
        generalize w5.alloc (.cells #[.int .i64 ta, .int .i64 tb, .int .i64 tc, .bool td, .bool te] 28) = w6 at *
        have hth := HL4.out.there (j := m) hs1 k4 (by omega) (by omega)
        refine (find_in _ _ _ _ _ HT6.out).mono ?_
        rintro e w7 ⟨rfl, hb⟩
        rw [hth.1, hth.2]
        have HT7 := hide (HT6.out.below hb HT6.out.lt)
        have HB7 := hide (HB6.out.trans (hb.mono HB6.out.size))
        clear hb hth HT6 HB6
        rw [show (trX s f k m).row = #[.int .i64 s, .int .i64 ((pgL f k m : Nat) : Int), .int .i64 (((pgL f k m : Nat) : Int) % 64), .bool true, .bool false] from rfl]
        go_wp2_with fail
        have HT8 := hide (HT7.out.below ((Below.refl _ w7).alloc (Nat.le_refl _) (.cells #[.int .i64 s, .int .i64 ((pgL f k m : Nat) : Int), .int .i64 (((pgL f k m : Nat) : Int) % 64), .bool true, .bool false] 28)) HT7.out.lt)
        have HB8 := hide (HB7.out.alloc HB7.out.size (.cells #[.int .i64 s, .int .i64 ((pgL f k m : Nat) : Int), .int .i64 (((pgL f k m : Nat) : Int) % 64), .bool true, .bool false] 28))
        clear HT7 HB7
        refine (all_of _ _ _ HT8.out).mono ?_
        rintro e w9 ⟨v, rfl, hrow, hb⟩
        have HT9 := hide (HT8.out.below hb HT8.out.lt)
        have HB9 := hide (HB8.out.trans (hb.mono HB8.out.size))
        rw [HLEN.out] at hrow
        rcases hrow.2 with ⟨_, h0⟩ | ⟨g', cap, cur, rfl, _⟩
        · exact absurd h0 (by decide)
        clear hrow hb HT8 HB8
        go_wp2_with fail
        refine (low_any fa 128 _ (by decide) (by decide)).mono ?_
        rintro e w' ⟨rfl, rfl⟩
        rw [HF.out]
        go_wp2_with fail
        rw [show 4 * (((f : Int) + (m : Int) - 1) % 128) + (k : Int) = ((pgL f k (m - 1) : Nat) : Int) by unfold pgL; omega]
        have hth := HL4.out.there (j := m - 1) hs1 k4 (by omega) (by omega)
        refine (find_in _ _ _ _ _ HT9.out).mono ?_
        rintro e wa ⟨rfl, hb⟩
        rw [hth.1, hth.2]
        have HTa := hide (HT9.out.below hb HT9.out.lt)
        have HBa := hide (HB9.out.trans (hb.mono HB9.out.size))
        clear hb hth HT9 HB9
        rw [show (trX s f k (m - 1)).row = #[.int .i64 s, .int .i64 ((pgL f k (m - 1) : Nat) : Int), .int .i64 (((pgL f k (m - 1) : Nat) : Int) % 64), .bool true, .bool false] from rfl]
        go_wp2_with fail
        have HTb := hide (HTa.out.below ((Below.refl _ wa).alloc (Nat.le_refl _) (.cells #[.int .i64 s, .int .i64 ((pgL f k (m - 1) : Nat) : Int), .int .i64 (((pgL f k (m - 1) : Nat) : Int) % 64), .bool true, .bool false] 28)) HTa.out.lt)
        have HBb := hide (HBa.out.alloc HBa.out.size (.cells #[.int .i64 s, .int .i64 ((pgL f k (m - 1) : Nat) : Int), .int .i64 (((pgL f k (m - 1) : Nat) : Int) % 64), .bool true, .bool false] 28))
        go_roundw
        case rel => exact ⟨m + 1, _, by omega, by simp, HTb.out, HL4.out, HBb.out⟩
        case measure => simp [intOf]; omega
    · go_wp2_with fail
      refine (awake6 _).mono ?_
      rintro e w5 ⟨rfl, hb⟩
      have HB3 := hide (HB2.out.trans (hb.mono HB2.out.size))
      clear hb HB2
      go_wp2_with fail
      go_ret
      exact ⟨rfl, HB3.out⟩
end Go.Proofs.Ytfjhchcnhmafkaa
