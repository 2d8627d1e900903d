/- The reference of chapter 6: All. -/
import Derived.Test.YtfjhchcnhmafkaaRef6c
import Derived.Test.YtfjhchcnhmafkaaTlbR
namespace Go.Proofs.Ytfjhchcnhmafkaa
open Go.RowKit Go.Shelf
set_option maxRecDepth 100000 in
set_option maxHeartbeats 8000000 in
theorem rall6 (g : Nat) (c : Cache) (w : World) (hT : Ref6At w g c) (hG : Good c) :
    Calls Try.prog 38 #[.pointer (some ⟨g, 0, none⟩)] w fun e w' => ∃ v, e = .returned v ∧ w'.ownsRow w.heap.size 28 5 v (vis c 8).length (rowsOf c (vis c 8)) ∧ Below w.heap.size w w' := by
  obtain ⟨i0, hi0, hz0, hz1, hz2⟩ := info_parts transInfo
  have hlt := hT.lt
  have HT := hide hT
  have HG := hide hG
  clear hT hG
  go_enter Try.func38, Try.ntmps38
  go_wp2
  go_loopw [3, 4] (fun v i wr => ∃ s : Nat, s ≤ 4 ∧ i = .int .i64 s ∧ wr.ownsRow w.heap.size 28 5 v (vis c (2 * s)).length (rowsOf c (vis c (2 * s))) ∧ Ref6At wr g c ∧ Below w.heap.size w wr) (fun _ i _ => 4 - (intOf i).toNat)
  case atStart => exact ⟨0, Nat.zero_le _, rfl, World.ownsRow_nil _ _ _ _, HT.out, Below.refl _ _⟩
  case round =>
    obtain ⟨s, hs, rfl, hR, hT, hB⟩ := hrel
    have HR := hide hR
    have HT2 := hide hT
    have HB2 := hide hB
    clear hR hT hB HT
    by_cases hs4 : s < 4
    · have i1 : (0 : Int) ≤ (s : Int) := by omega
      have i2 : (s : Int) < 4 := by omega
      go_wp2
      go_loopw [3, 5] (fun v i wr => ∃ k : Nat, k ≤ 2 ∧ i = .int .i64 k ∧ wr.ownsRow w.heap.size 28 5 v (vis c (2 * s + k)).length (rowsOf c (vis c (2 * s + k))) ∧ Ref6At wr g c ∧ Below w.heap.size w wr) (fun _ i _ => 2 - (intOf i).toNat)
      case atStart => exact ⟨0, Nat.zero_le _, rfl, HR.out, HT2.out, HB2.out⟩
      case round =>
        obtain ⟨k, hk, rfl, hR, hT, hB⟩ := hrel
        have HR3 := hide hR
        have HT3 := hide hT
        have HB3 := hide hB
        clear hR hB HR HT2 HB2
        by_cases hk2 : k < 2
        · obtain ⟨t0, t1, t2, t3, t4⟩ := hT.cell (2 * s + k) (by omega)
          rw [show (2 * s + k) * 5 = s * 10 + k * 5 by omega] at t0 t1 t2 t3 t4
          have i3 : (0 : Int) ≤ (k : Int) := by omega
          have i4 : (k : Int) < 2 := by omega
          have hv8 := vis_len c (2 * s + k)
          have HW := hide (fun h0 => (HG.out.may (2 * s + k) (by omega) h0).1.1)
          clear hT
          by_cases h0 : 0 < (c.way (2 * s + k)).sp
          · have HV := hide (vis_yes (c := c) (n := 2 * s + k) (by simp; omega))
            have hb4 := HB3.out.alloc HB3.out.size (.cells (c.way (2 * s + k)).row 28)
            have HB4 := hide hb4
            clear hb4
            go_wp2_with (at_builtin; refine wpList_append_own _ rfl (.tmp 24) (.tmp 33) 31 rfl w.heap.size 28 i0 (.agg Tr.zero.row) 5 32 Try.underlying31 hi0 hz0 hz1 hz2 rfl (by decide) _ (vis c (2 * s + k)).length (rowsOf c (vis c (2 * s + k))) rfl (HR3.out.alloc _) ⟨wr.heap.size, 0, none⟩ 1 1 (c.way (2 * s + k)).row.toList rfl rfl (World.news_of_block (heap_alloc_new wr _)) (row_one _) (by unfold maxLen; omega) (by omega) HB4.out.size ?_; intro v' w1 hown hgrow hiff)
            have hrow := hown
            have hb5 := HB4.out.grown hgrow HB4.out.size (fun k e => (HR3.out.lt k e).1)
            have hg5 : Ref6At w1 g c := HT3.out.same ((hgrow.block g (by simp; have := HT3.out.lt; omega) (fun e => by have := (HR3.out.lt g e.symm).1; omega)).trans (Below.heap_alloc _ _ _ HT3.out.lt))
            go_wp2
            go_roundw
            case rel => exact ⟨k + 1, by omega, by simp, by rw [← Nat.add_assoc, HV.out, List.length_append, rowsOf_snoc]; exact hrow, hg5, hb5⟩
            case measure => simp [intOf]; omega
          · have HV := hide (vis_no (c := c) (n := 2 * s + k) (by
              by_cases h : (c.way (2 * s + k)).sp = 0
              · simp [h]
              · exact (h0 (HW.out h)).elim))
            go_wp2
            go_roundw
            case rel => exact ⟨k + 1, by omega, by simp, by rw [← Nat.add_assoc, HV.out]; exact HR3.out, HT3.out, HB3.out⟩
            case measure => simp [intOf]; omega
        · obtain rfl : k = 2 := by omega
          clear hT
          go_wp2
          go_roundw
          case rel => exact ⟨s + 1, by omega, by simp, HR3.out, HT3.out, HB3.out⟩
          case measure => simp [intOf]; omega
    · obtain rfl : s = 4 := by omega
      go_wp2
      go_ret
      exact ⟨_, rfl, HR.out, HB2.out⟩
theorem rall6_rows (g : Nat) (c : Cache) (w : World) (hT : Ref6At w g c) (hG : Good c) :
    Calls Try.prog 38 #[.pointer (some ⟨g, 0, none⟩)] w fun e w' => ∃ A cap, e = .returned (.slice A (vis c 8).length cap) ∧ RowsAt w' w.heap.size A (vis c 8).length (ts c) ∧ Below w.heap.size w w' := by
  refine (rall6 g c w hT hG).mono ?_
  rintro e w' ⟨v, rfl, hrow, hb⟩
  obtain ⟨A, cap, rfl, hr⟩ := rows_of_owns hrow
  exact ⟨A, cap, rfl, hr, hb⟩
end Go.Proofs.Ytfjhchcnhmafkaa
