/- A cache behind acts. -/
import Derived.Test.YtfjhchcnhmafkaaTlbG
namespace Go.Proofs.Ytfjhchcnhmafkaa
open Go.RowKit Go.Shelf
set_option maxRecDepth 100000 in
set_option maxHeartbeats 8000000 in
theorem played_any (w : World) (A : Option Addr) (n ca : Nat) (xs : Nat → Act6) (hA : Acts6 w A n xs) (hn : n ≤ 9223372036854775807) :
    Calls Try.prog 27 #[.slice A n ca] w fun e w' => e = .returned (.pointer (some ⟨w.heap.size, 0, none⟩)) ∧ (∃ c, TlbAt w' w.heap.size c ∧ Good c) ∧ Below w.heap.size w w' := by
  have HA := hide hA
  clear hA
  go_enter Try.func27, Try.ntmps27
  go_wp2_with fail
  refine (tnew_any _).mono ?_
  rintro e w1 ⟨rfl, hT, hb⟩
  have HT := hide hT
  have HB := hide hb
  have hl := hT.lt
  clear hT hb
  go_wp2_with fail
  go_loopw [4] (fun i wr => ∃ (m : Nat) (c : Cache), m ≤ n ∧ i = .int .i64 m ∧ TlbAt wr w.heap.size c ∧ Good c ∧ Below w.heap.size w wr) (fun i _ => n - (intOf i).toNat)
  case atStart => exact ⟨0, _, Nat.zero_le _, rfl, HT.out, Good.empty, HB.out⟩
  case round =>
    obtain ⟨m, c, hm, rfl, hT, hL, hB⟩ := hrel
    have HT2 := hide hT
    have HG := hide hL
    have HB2 := hide hB
    clear hT hL hB HT HB
    by_cases hlt : m < n
    · obtain ⟨b, off, rfl, hbl, hc⟩ := HA.out.resolve_left (by omega)
      obtain ⟨c0, c1, c2, c3, c4, c5, c6, c7⟩ := hc m hlt
      rw [← cell_below HB2.out hbl] at c0 c1 c2 c3 c4 c5 c6 c7
      have i1 : (0 : Int) ≤ (m : Int) := by omega
      have i2 : (m : Int) < (n : Int) := by omega
      clear hc
      by_cases h0 : (xs m).d = 0
      · rw [h0] at c0
        clear h0
        go_wp2_with fail
        have hT3 := HT2.out.below ((Below.refl _ wr).alloc (Nat.le_refl _) (.cells #[.int .i64 0, .int .i64 (xs m).x.sp, .int .i64 (xs m).x.pg, .int .i64 (xs m).x.fr, .bool (xs m).x.rd, .bool (xs m).x.wr, .int .i64 (xs m).s, .int .i64 (xs m).k] 67)) HT2.out.lt
        have hB3 := HB2.out.alloc HB2.out.size (.cells #[.int .i64 0, .int .i64 (xs m).x.sp, .int .i64 (xs m).x.pg, .int .i64 (xs m).x.fr, .bool (xs m).x.rd, .bool (xs m).x.wr, .int .i64 (xs m).s, .int .i64 (xs m).k] 67)
        refine (fill_any _ _ (xs m).x _ hT3 HG.out.ok).mono ?_
        rintro e w3 ⟨rfl, hT4, hm4⟩
        have HT4 := hide hT4
        have HB4 := hide (below_mod hB3 (Nat.le_refl _) hm4 (fun k hk => by omega))
        clear hT3 hB3 hT4 hm4 HT2 HB2 c0 c1 c2 c3 c4 c5 c6 c7
        go_wp2_with fail
        go_roundw
        case rel => exact ⟨m + 1, _, by omega, by simp, HT4.out, HG.out.fill _, HB4.out⟩
        case measure => simp [intOf]; omega
      by_cases h2 : (xs m).d = 2
      · rw [h2] at c0
        clear h2
        go_wp2_with fail
        have hT3 := HT2.out.below ((Below.refl _ wr).alloc (Nat.le_refl _) (.cells #[.int .i64 2, .int .i64 (xs m).x.sp, .int .i64 (xs m).x.pg, .int .i64 (xs m).x.fr, .bool (xs m).x.rd, .bool (xs m).x.wr, .int .i64 (xs m).s, .int .i64 (xs m).k] 67)) HT2.out.lt
        have hB3 := HB2.out.alloc HB2.out.size (.cells #[.int .i64 2, .int .i64 (xs m).x.sp, .int .i64 (xs m).x.pg, .int .i64 (xs m).x.fr, .bool (xs m).x.rd, .bool (xs m).x.wr, .int .i64 (xs m).s, .int .i64 (xs m).k] 67)
        refine (evict_any _ _ _ _ _ hT3).mono ?_
        rintro e w3 ⟨rfl, hT4, hm4⟩
        have HT4 := hide hT4
        have HB4 := hide (below_mod hB3 (Nat.le_refl _) hm4 (fun k hk => by omega))
        clear hT3 hB3 hT4 hm4 HT2 HB2 c0 c1 c2 c3 c4 c5 c6 c7
        go_wp2_with fail
        go_roundw
        case rel => exact ⟨m + 1, _, by omega, by simp, HT4.out, HG.out.evict _ _, HB4.out⟩
        case measure => simp [intOf]; omega
      by_cases h3 : (xs m).d = 3
      · rw [h3] at c0
        clear h3
        go_wp2_with fail
        have hT3 := HT2.out.below ((Below.refl _ wr).alloc (Nat.le_refl _) (.cells #[.int .i64 3, .int .i64 (xs m).x.sp, .int .i64 (xs m).x.pg, .int .i64 (xs m).x.fr, .bool (xs m).x.rd, .bool (xs m).x.wr, .int .i64 (xs m).s, .int .i64 (xs m).k] 67)) HT2.out.lt
        have hB3 := HB2.out.alloc HB2.out.size (.cells #[.int .i64 3, .int .i64 (xs m).x.sp, .int .i64 (xs m).x.pg, .int .i64 (xs m).x.fr, .bool (xs m).x.rd, .bool (xs m).x.wr, .int .i64 (xs m).s, .int .i64 (xs m).k] 67)
        refine (dropPage_in _ _ _ _ _ hT3).mono ?_
        rintro e w3 ⟨rfl, hT4, hm4⟩
        have HT4 := hide hT4
        have HB4 := hide (below_mod hB3 (Nat.le_refl _) hm4 (fun k hk => by omega))
        clear hT3 hB3 hT4 hm4 HT2 HB2 c0 c1 c2 c3 c4 c5 c6 c7
        go_wp2_with fail
        go_roundw
        case rel => exact ⟨m + 1, _, by omega, by simp, HT4.out, HG.out.drop _ _, HB4.out⟩
        case measure => simp [intOf]; omega
      by_cases h4 : (xs m).d = 4
      · rw [h4] at c0
        clear h4
        go_wp2_with fail
        have hT3 := HT2.out.below ((Below.refl _ wr).alloc (Nat.le_refl _) (.cells #[.int .i64 4, .int .i64 (xs m).x.sp, .int .i64 (xs m).x.pg, .int .i64 (xs m).x.fr, .bool (xs m).x.rd, .bool (xs m).x.wr, .int .i64 (xs m).s, .int .i64 (xs m).k] 67)) HT2.out.lt
        have hB3 := HB2.out.alloc HB2.out.size (.cells #[.int .i64 4, .int .i64 (xs m).x.sp, .int .i64 (xs m).x.pg, .int .i64 (xs m).x.fr, .bool (xs m).x.rd, .bool (xs m).x.wr, .int .i64 (xs m).s, .int .i64 (xs m).k] 67)
        refine (dropSpace_in _ _ _ _ hT3).mono ?_
        rintro e w3 ⟨rfl, hT4, hm4⟩
        have HT4 := hide hT4
        have HB4 := hide (below_mod hB3 (Nat.le_refl _) hm4 (fun k hk => by omega))
        clear hT3 hB3 hT4 hm4 HT2 HB2 c0 c1 c2 c3 c4 c5 c6 c7
        go_wp2_with fail
        go_roundw
        case rel => exact ⟨m + 1, _, by omega, by simp, HT4.out, HG.out.drop _ _, HB4.out⟩
        case measure => simp [intOf]; omega
      go_wp2_with fail
      have HT4 := hide (HT2.out.below ((Below.refl _ wr).alloc (Nat.le_refl _) (.cells #[.int .i64 (xs m).d, .int .i64 (xs m).x.sp, .int .i64 (xs m).x.pg, .int .i64 (xs m).x.fr, .bool (xs m).x.rd, .bool (xs m).x.wr, .int .i64 (xs m).s, .int .i64 (xs m).k] 67)) HT2.out.lt)
      have HB4 := hide (HB2.out.alloc HB2.out.size (.cells #[.int .i64 (xs m).d, .int .i64 (xs m).x.sp, .int .i64 (xs m).x.pg, .int .i64 (xs m).x.fr, .bool (xs m).x.rd, .bool (xs m).x.wr, .int .i64 (xs m).s, .int .i64 (xs m).k] 67))
      go_roundw
      case rel => exact ⟨m + 1, _, by omega, by simp, HT4.out, HG.out, HB4.out⟩
      case measure => simp [intOf]; omega
    · go_wp2_with fail
      go_ret
      exact ⟨rfl, ⟨_, HT2.out, HG.out⟩, HB2.out⟩
end Go.Proofs.Ytfjhchcnhmafkaa
