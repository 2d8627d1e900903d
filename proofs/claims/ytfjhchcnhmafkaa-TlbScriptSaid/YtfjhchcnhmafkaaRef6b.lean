/- The reference of chapter 6: Find. -/
import Derived.Test.YtfjhchcnhmafkaaRef6
namespace Go.Proofs.Ytfjhchcnhmafkaa
open Go.RowKit Go.Shelf
theorem not_hit {c : Cache} {sp pg : Int} {n : Nat} (h : ∀ j, j < n → (c.way j).sp ≠ 0 → hit c sp pg j = false) : ∀ j ∈ vis c n, hit c sp pg j = false := fun j hj => h j (mem_vis.1 hj).1 (mem_vis.1 hj).2
theorem not_hit_next {c : Cache} {sp pg : Int} {n : Nat} (h : ∀ j, j < n → (c.way j).sp ≠ 0 → hit c sp pg j = false) (h2 : (c.way n).sp ≠ 0 → hit c sp pg n = false) : ∀ j, j < n + 1 → (c.way j).sp ≠ 0 → hit c sp pg j = false := fun j hj h0 => by
  by_cases e : j = n
  · rw [e] at h0 ⊢; exact h2 h0
  · exact h j (by omega) h0
set_option maxRecDepth 100000 in
set_option maxHeartbeats 4000000 in
theorem rfind6 (g : Nat) (c : Cache) (sp pg : Int) (w : World) (hT : Ref6At w g c) (hG : Good c) :
    Calls Try.prog 33 #[.pointer (some ⟨g, 0, none⟩), .int .i64 sp, .int .i64 pg] w fun e w' => e = .returned (.tuple #[.agg (findTr c sp pg).row, .bool (findOk c sp pg)]) ∧ Below w.heap.size w w' := by
  have hlt := hT.lt
  have HT := hide hT
  have HG := hide hG
  clear hT hG
  go_enter Try.func33, Try.ntmps33
  go_wp2
  have hb0 := (Below.refl w.heap.size w).alloc (Nat.le_refl _) (.cells Tr.zero.row 28)
  have HB := hide hb0
  have HT1 := hide (HT.out.below hb0 hlt)
  have HX := hide (Blk.new w 28 Tr.zero.row)
  clear hb0 HT
  go_loopw [8] (fun i wr => ∃ s : Nat, s ≤ 4 ∧ i = .int .i64 s ∧ Ref6At wr g c ∧ Blk wr w.heap.size 28 Tr.zero.row ∧ (∀ j, j < 2 * s → (c.way j).sp ≠ 0 → hit c sp pg j = false) ∧ Below w.heap.size w wr) (fun i _ => 4 - (intOf i).toNat)
  case atStart => exact ⟨0, Nat.zero_le _, rfl, HT1.out, HX.out, fun j hj => by omega, HB.out⟩
  case round =>
    obtain ⟨s, hs, rfl, hT, hX, hN, hB⟩ := hrel
    have HT2 := hide hT
    have HX2 := hide hX
    have HN := hide hN
    have HB2 := hide hB
    clear hT hX hN hB HT1 HX HB
    by_cases hs4 : s < 4
    · have i1 : (0 : Int) ≤ (s : Int) := by omega
      have i2 : (s : Int) < 4 := by omega
      go_wp2
      go_loopw [9] (fun i wr => ∃ k : Nat, k ≤ 2 ∧ i = .int .i64 k ∧ Ref6At wr g c ∧ Blk wr w.heap.size 28 Tr.zero.row ∧ (∀ j, j < 2 * s + k → (c.way j).sp ≠ 0 → hit c sp pg j = false) ∧ Below w.heap.size w wr) (fun i _ => 2 - (intOf i).toNat)
      case atStart => exact ⟨0, Nat.zero_le _, rfl, HT2.out, HX2.out, HN.out, HB2.out⟩
      case round =>
        obtain ⟨k, hk, rfl, hT, hX, hN, hB⟩ := hrel
        by_cases hk2 : k < 2
        · obtain ⟨t0, t1, t2, t3, t4⟩ := hT.cell (2 * s + k) (by omega)
          rw [show (2 * s + k) * 5 = s * 10 + k * 5 by omega] at t0 t1 t2 t3 t4
          obtain ⟨r0, r1, r2, r3, r4⟩ := blk_row hX
          have q0 := hX.frozen 0
          have q1 := hX.frozen 1
          have q2 := hX.frozen 2
          have q3 := hX.frozen 3
          have q4 := hX.frozen 4
          have hxl := hX.lt
          have hal := (Below.refl wr.heap.size wr).alloc (Nat.le_refl _) (.cells (c.way (2 * s + k)).row 28)
          have HXr := hide hX
          have HBr := hide hB
          have HT4 := hide (hT.below hal hT.lt)
          have HX4 := hide (hX.below hal hX.lt)
          have HN4 := hide hN
          have HB4 := hide (hB.trans (hal.mono hB.size))
          have i3 : (0 : Int) ≤ (k : Int) := by omega
          have i4 : (k : Int) < 2 := by omega
          have hway := fun h0 => (HG.out.may (2 * s + k) (by omega) h0).1.1
          have HW := hide hway
          clear hT hX hN hB hal hway HT2 HX2 HN HB2
          by_cases h0 : 0 < (c.way (2 * s + k)).sp
          · cases h1 : (c.way (2 * s + k)).sp == sp with
            | true =>
              cases h2 : (c.way (2 * s + k)).pg == pg with
              | true =>
                have hfv := findV_hit (c := c) (sp := sp) (pg := pg) (x := 2 * s + k) (by omega) (by omega) (not_hit HN4.out) (by simp [hit, h1, h2])
                have HF := hide hfv
                clear hfv
                go_wp2
                have hz := (blk5_set HXr.out (c.way (2 * s + k))).alloc (.cells (c.way (2 * s + k)).row 28)
                have hbm := below_mod HBr.out (Nat.le_refl _) (stored5_mod (Mod.refl (· = w.heap.size) wr) (g := w.heap.size) (.inl rfl) 0 (c.way (2 * s + k))) (fun k e => by omega)
                refine bodyPost_ret (results_cell_tmp rfl _ _ w.heap.size 28 (c.way (2 * s + k)).row (0, 0) _ rfl hz Try.underlying28 rfl (by kernel_rfl)) rfl ⟨?_, hbm.alloc hbm.size _⟩
                rw [show findTr c sp pg = c.way (2 * s + k) by unfold findTr; rw [HF.out], show findOk c sp pg = true by unfold findOk; rw [HF.out]; rfl]
                rfl
              | false =>
                go_wp2
                go_roundw
                case rel => exact ⟨k + 1, by omega, by simp, HT4.out, HX4.out, not_hit_next HN4.out (fun _ => by simp [hit, h2]), HB4.out⟩
                case measure => simp [intOf]; omega
            | false =>
              go_wp2
              go_roundw
              case rel => exact ⟨k + 1, by omega, by simp, HT4.out, HX4.out, not_hit_next HN4.out (fun _ => by simp [hit, h1]), HB4.out⟩
              case measure => simp [intOf]; omega
          · go_wp2
            go_roundw
            case rel => exact ⟨k + 1, by omega, by simp, HT4.out, HX4.out, not_hit_next HN4.out (fun h => by have := HW.out h; omega), HB4.out⟩
            case measure => simp [intOf]; omega
        · obtain rfl : k = 2 := by omega
          have HT4 := hide hT
          have HX4 := hide hX
          have HN4 := hide hN
          have HB4 := hide hB
          clear hT hX hN hB HT2 HX2 HN HB2
          go_wp2
          go_roundw
          case rel => exact ⟨s + 1, by omega, by simp, HT4.out, HX4.out, HN4.out, HB4.out⟩
          case measure => simp [intOf]; omega
    · obtain rfl : s = 4 := by omega
      obtain ⟨r0, r1, r2, r3, r4⟩ := blk_row HX2.out
      have q0 := HX2.out.frozen 0
      have q1 := HX2.out.frozen 1
      have q2 := HX2.out.frozen 2
      have q3 := HX2.out.frozen 3
      have q4 := HX2.out.frozen 4
      have hfv := findV_none (c := c) (sp := sp) (pg := pg) (not_hit HN.out)
      have HF := hide hfv
      clear hfv
      go_wp2
      have hz := blk5_set HX2.out Tr.zero
      have hbm := below_mod HB2.out (Nat.le_refl _) (stored5_mod (Mod.refl (· = w.heap.size) wr) (g := w.heap.size) (.inl rfl) 0 Tr.zero) (fun k e => by omega)
      refine bodyPost_ret (results_cell_tmp rfl _ _ w.heap.size 28 Tr.zero.row (0, 0) _ rfl hz Try.underlying28 rfl (by kernel_rfl)) rfl ⟨?_, hbm⟩
      rw [show findTr c sp pg = Tr.zero by unfold findTr; rw [HF.out], show findOk c sp pg = false by unfold findOk; rw [HF.out]; rfl]
      rfl
end Go.Proofs.Ytfjhchcnhmafkaa
