/- The reference of chapter 6: Find. The reference of chapter 6: Drop. The reference of chapter 6: All. -/
import Derived.Test.YtlfenakabedmfaaRef6
import Derived.Test.YtlfenakabedmfaaTlbR
namespace Go.Proofs.Ytlfenakabedmfaa
open Go.RowKit Go.Shelf
theorem not_hit {c : Cache} {sp pg : Int} {n : Nat} (h : ∀ j, j < n → (c.way j).sp ≠ 0 → hit c sp pg j = false) : ∀ j ∈ vis c n, hit c sp pg j = false := fun j hj => h j (mem_vis.1 hj).1 (mem_vis.1 hj).2
theorem not_hit_next {c : Cache} {sp pg : Int} {n : Nat} (h : ∀ j, j < n → (c.way j).sp ≠ 0 → hit c sp pg j = false) (h2 : (c.way n).sp ≠ 0 → hit c sp pg n = false) : ∀ j, j < n + 1 → (c.way j).sp ≠ 0 → hit c sp pg j = false := fun j hj h0 => by
  by_cases e : j = n
  · rw [e] at h0 ⊢; exact h2 h0
  · exact h j (by omega) h0
set_option maxRecDepth 100000 in
set_option maxHeartbeats 4000000 in
theorem rfind6 (g : Nat) (c : Cache) (sp pg : Int) (w : World) (hT : Ref6At w g c) (hG : Good c) :
    Calls Try.prog 83 #[.pointer (some ⟨g, 0, none⟩), .int .i64 sp, .int .i64 pg] w fun e w' => e = .returned (.tuple #[.agg (findTr c sp pg).row, .bool (findOk c sp pg)]) ∧ Below w.heap.size w w' := by
  have hlt := hT.lt
  have HT := hide hT
  have HG := hide hG
  clear hT hG
  go_enter Try.func83, Try.ntmps83
  go_wp2
  have hb0 := (Below.refl w.heap.size w).alloc (Nat.le_refl _) (.cells Tr.zero.row 42)
  have HB := hide hb0
  have HT1 := hide (HT.out.below hb0 hlt)
  have HX := hide (Blk.new w 42 Tr.zero.row)
  clear hb0 HT
  go_loopw [8] (fun i wr => ∃ s : Nat, s ≤ 4 ∧ i = .int .i64 s ∧ Ref6At wr g c ∧ Blk wr w.heap.size 42 Tr.zero.row ∧ (∀ j, j < 2 * s → (c.way j).sp ≠ 0 → hit c sp pg j = false) ∧ Below w.heap.size w wr) (fun i _ => 4 - (intOf i).toNat)
  case atStart => exact ⟨0, Nat.zero_le _, rfl, HT1.out, HX.out, fun j hj => by omega, HB.out⟩
  case round =>
    obtain ⟨s, hs, rfl, hT, hX, hN, hB⟩ := hrel
    have HT2 := hide hT
    have HX2 := hide hX
    have HN := hide hN
    have HB2 := hide hB
    clear hT hX hN hB HT1 HX HB
    by_cases hs4 : s < 4
    · have i1 : (0 : Int) ≤ (s : Int) := by omega
      have i2 : (s : Int) < 4 := by omega
      go_wp2
      go_loopw [9] (fun i wr => ∃ k : Nat, k ≤ 2 ∧ i = .int .i64 k ∧ Ref6At wr g c ∧ Blk wr w.heap.size 42 Tr.zero.row ∧ (∀ j, j < 2 * s + k → (c.way j).sp ≠ 0 → hit c sp pg j = false) ∧ Below w.heap.size w wr) (fun i _ => 2 - (intOf i).toNat)
      case atStart => exact ⟨0, Nat.zero_le _, rfl, HT2.out, HX2.out, HN.out, HB2.out⟩
      case round =>
        obtain ⟨k, hk, rfl, hT, hX, hN, hB⟩ := hrel
        by_cases hk2 : k < 2
        · obtain ⟨t0, t1, t2, t3, t4⟩ := hT.cell (2 * s + k) (by omega)
          rw [show (2 * s + k) * 5 = s * 10 + k * 5 by omega] at t0 t1 t2 t3 t4
          obtain ⟨r0, r1, r2, r3, r4⟩ := blk_row hX
          have q0 := hX.frozen 0
          have q1 := hX.frozen 1
          have q2 := hX.frozen 2
          have q3 := hX.frozen 3
          have q4 := hX.frozen 4
          have hxl := hX.lt
          have hal := (Below.refl wr.heap.size wr).alloc (Nat.le_refl _) (.cells (c.way (2 * s + k)).row 42)
          have HXr := hide hX
          have HBr := hide hB
          have HT4 := hide (hT.below hal hT.lt)
          have HX4 := hide (hX.below hal hX.lt)
          have HN4 := hide hN
          have HB4 := hide (hB.trans (hal.mono hB.size))
          have i3 : (0 : Int) ≤ (k : Int) := by omega
          have i4 : (k : Int) < 2 := by omega
          have hway := fun h0 => (HG.out.may (2 * s + k) (by omega) h0).1.1
          have HW := hide hway
          clear hT hX hN hB hal hway HT2 HX2 HN HB2
          by_cases h0 : 0 < (c.way (2 * s + k)).sp
          · cases h1 : (c.way (2 * s + k)).sp == sp with
            | true =>
              cases h2 : (c.way (2 * s + k)).pg == pg with
              | true =>
                have hfv := findV_hit (c := c) (sp := sp) (pg := pg) (x := 2 * s + k) (by omega) (by omega) (not_hit HN4.out) (by simp [hit, h1, h2])
                have HF := hide hfv
                clear hfv
                go_wp2
                have hz := (blk5_set HXr.out (c.way (2 * s + k))).alloc (.cells (c.way (2 * s + k)).row 42)
                have hbm := below_mod HBr.out (Nat.le_refl _) (stored5_mod (Mod.refl (· = w.heap.size) wr) (g := w.heap.size) (.inl rfl) 0 (c.way (2 * s + k))) (fun k e => by omega)
                refine bodyPost_ret (results_cell_tmp rfl _ _ w.heap.size 42 (c.way (2 * s + k)).row (0, 0) _ rfl hz Try.underlying42 rfl (by kernel_rfl)) rfl ⟨?_, hbm.alloc hbm.size _⟩
                rw [show findTr c sp pg = c.way (2 * s + k) by unfold findTr; rw [HF.out], show findOk c sp pg = true by unfold findOk; rw [HF.out]; rfl]
                rfl
              | false =>
                go_wp2
                go_roundw
                case rel => exact ⟨k + 1, by omega, by simp, HT4.out, HX4.out, not_hit_next HN4.out (fun _ => by simp [hit, h2]), HB4.out⟩
                case measure => simp [intOf]; omega
            | false =>
              go_wp2
              go_roundw
              case rel => exact ⟨k + 1, by omega, by simp, HT4.out, HX4.out, not_hit_next HN4.out (fun _ => by simp [hit, h1]), HB4.out⟩
              case measure => simp [intOf]; omega
          · go_wp2
            go_roundw
            case rel => exact ⟨k + 1, by omega, by simp, HT4.out, HX4.out, not_hit_next HN4.out (fun h => by have := HW.out h; omega), HB4.out⟩
            case measure => simp [intOf]; omega
        · obtain rfl : k = 2 := by omega
          have HT4 := hide hT
          have HX4 := hide hX
          have HN4 := hide hN
          have HB4 := hide hB
          clear hT hX hN hB HT2 HX2 HN HB2
          go_wp2
          go_roundw
          case rel => exact ⟨s + 1, by omega, by simp, HT4.out, HX4.out, HN4.out, HB4.out⟩
          case measure => simp [intOf]; omega
    · obtain rfl : s = 4 := by omega
      obtain ⟨r0, r1, r2, r3, r4⟩ := blk_row HX2.out
      have q0 := HX2.out.frozen 0
      have q1 := HX2.out.frozen 1
      have q2 := HX2.out.frozen 2
      have q3 := HX2.out.frozen 3
      have q4 := HX2.out.frozen 4
      have hfv := findV_none (c := c) (sp := sp) (pg := pg) (not_hit HN.out)
      have HF := hide hfv
      clear hfv
      go_wp2
      have hz := blk5_set HX2.out Tr.zero
      have hbm := below_mod HB2.out (Nat.le_refl _) (stored5_mod (Mod.refl (· = w.heap.size) wr) (g := w.heap.size) (.inl rfl) 0 Tr.zero) (fun k e => by omega)
      refine bodyPost_ret (results_cell_tmp rfl _ _ w.heap.size 42 Tr.zero.row (0, 0) _ rfl hz Try.underlying42 rfl (by kernel_rfl)) rfl ⟨?_, hbm⟩
      rw [show findTr c sp pg = Tr.zero by unfold findTr; rw [HF.out], show findOk c sp pg = false by unfold findOk; rw [HF.out]; rfl]
      rfl
end Go.Proofs.Ytlfenakabedmfaa
namespace Go.Proofs.Ytlfenakabedmfaa
open Go.RowKit Go.Shelf
def isDropR (all : Bool) (sp pg : Int) (y : Tr) : Bool := all || (y.sp == sp && (pg == -1 || y.pg == pg))
theorem vis_self (c : Cache) (P : Tr → Bool) (i : Nat) : (dropAt c P (vis c i)).way i = c.way i := by
  simp only [dropAt]
  rw [if_neg (fun h => by have := (mem_vis.1 h.1).1; omega)]
set_option maxRecDepth 100000 in
set_option maxHeartbeats 8000000 in
theorem rdrop6 (g : Nat) (c : Cache) (sp pg : Int) (all : Bool) (w : World) (hT : Ref6At w g c) (hG : Good c) :
    Calls Try.prog 86 #[.pointer (some ⟨g, 0, none⟩), .int .i64 sp, .int .i64 pg, .bool all] w fun e w' => e = .returned (.int .i64 (dropN c (isDropR all sp pg) (vis c 8))) ∧ Ref6At w' g (dropAt c (isDropR all sp pg) (vis c 8)) ∧ Mod (· = g) w w' := by
  have hlt := hT.lt
  have HT := hide hT
  have HG := hide hG
  clear hT hG
  go_enter Try.func86, Try.ntmps86
  go_wp2
  go_loopw [9, 10] (fun n i wr => ∃ s : Nat, s ≤ 4 ∧ n = .int .i64 (dropN c (isDropR all sp pg) (vis c (2 * s)) : Nat) ∧ i = .int .i64 s ∧ Ref6At wr g (dropAt c (isDropR all sp pg) (vis c (2 * s))) ∧ Mod (· = g) w wr) (fun _ i _ => 4 - (intOf i).toNat)
  case atStart => exact ⟨0, Nat.zero_le _, rfl, rfl, by rw [show vis c (2 * 0) = [] from rfl, dropAt_nil]; exact HT.out, Mod.refl _ _⟩
  case round =>
    obtain ⟨s, hs, rfl, rfl, hT, hB⟩ := hrel
    have HT2 := hide hT
    have HB2 := hide hB
    clear hT hB HT
    by_cases hs4 : s < 4
    · have i1 : (0 : Int) ≤ (s : Int) := by omega
      have i2 : (s : Int) < 4 := by omega
      go_wp2
      go_loopw [9, 11] (fun n i wr => ∃ k : Nat, k ≤ 2 ∧ n = .int .i64 (dropN c (isDropR all sp pg) (vis c (2 * s + k)) : Nat) ∧ i = .int .i64 k ∧ Ref6At wr g (dropAt c (isDropR all sp pg) (vis c (2 * s + k))) ∧ Mod (· = g) w wr) (fun _ i _ => 2 - (intOf i).toNat)
      case atStart => exact ⟨0, Nat.zero_le _, rfl, rfl, HT2.out, HB2.out⟩
      case round =>
        obtain ⟨k, hk, rfl, rfl, hT, hB⟩ := hrel
        have HTr := hide hT
        have HBr := hide hB
        by_cases hk2 : k < 2
        · obtain ⟨t0, t1, t2, t3, t4⟩ := hT.cell (2 * s + k) (by omega)
          rw [vis_self, show (2 * s + k) * 5 = s * 10 + k * 5 by omega] at t0 t1 t2 t3 t4
          have q0 := hT.frozen (s * 10 + k * 5)
          have q1 := hT.frozen (s * 10 + k * 5 + 1)
          have q2 := hT.frozen (s * 10 + k * 5 + 2)
          have q3 := hT.frozen (s * 10 + k * 5 + 3)
          have q4 := hT.frozen (s * 10 + k * 5 + 4)
          have hgl := hT.lt
          have i3 : (0 : Int) ≤ (k : Int) := by omega
          have i4 : (k : Int) < 2 := by omega
          have hd := dropN_le c (isDropR all sp pg) (vis c (2 * s + k))
          have hv8 := vis_len c (2 * s + k)
          have i5 : (0 : Int) ≤ ((dropN c (isDropR all sp pg) (vis c (2 * s + k)) : Nat) : Int) := by omega
          have i6 : ((dropN c (isDropR all sp pg) (vis c (2 * s + k)) : Nat) : Int) ≤ 8 := by omega
          have HW := hide (fun h0 => (HG.out.may (2 * s + k) (by omega) h0).1.1)
          clear hT hB HT2 HB2 hd hv8
          by_cases h0 : 0 < (c.way (2 * s + k)).sp
          · have HV := hide (vis_yes (c := c) (n := 2 * s + k) (by simp; omega))
            cases all with
            | true =>
              have HP := hide (show (isDropR true sp pg) (c.way (2 * s + k)) = true by rfl)
              go_wp2
              go_roundw
              case rel =>
                have hput := HTr.out.put (2 * s + k) (by omega) Tr.zero
                rw [show (2 * s + k) * 5 = s * 10 + k * 5 by omega, dropAt_yes HP.out, ← HV.out] at hput
                exact ⟨k + 1, by omega, by rw [← Nat.add_assoc, HV.out, dropN_yes HP.out]; push_cast; rfl, by simp, hput.below (Below.alloc (Below.refl _ _) (Nat.le_refl _) _) hput.lt, (stored5_mod HBr.out (g := g) (.inl rfl) (s * 10 + k * 5) Tr.zero).alloc _⟩
              case measure => simp [intOf]; omega
            | false =>
              cases h1 : (c.way (2 * s + k)).sp == sp with
              | false =>
                have HP := hide (show (isDropR false sp pg) (c.way (2 * s + k)) = false by unfold isDropR; rw [h1]; rfl)
                go_wp2
                go_roundw
                case rel => exact ⟨k + 1, by omega, by rw [← Nat.add_assoc, HV.out, dropN_no HP.out], by simp, by rw [← Nat.add_assoc, HV.out, dropAt_no HP.out]; exact HTr.out.below (Below.alloc (Below.refl _ _) (Nat.le_refl _) _) HTr.out.lt, HBr.out.alloc _⟩
                case measure => simp [intOf]; omega
              | true =>
                cases h2 : pg == -1 with
                | true =>
                  have HP := hide (show (isDropR false sp pg) (c.way (2 * s + k)) = true by unfold isDropR; rw [h1, h2]; rfl)
                  go_wp2
                  go_roundw
                  case rel =>
                    have hput := HTr.out.put (2 * s + k) (by omega) Tr.zero
                    rw [show (2 * s + k) * 5 = s * 10 + k * 5 by omega, dropAt_yes HP.out, ← HV.out] at hput
                    exact ⟨k + 1, by omega, by rw [← Nat.add_assoc, HV.out, dropN_yes HP.out]; push_cast; rfl, by simp, hput.below (Below.alloc (Below.refl _ _) (Nat.le_refl _) _) hput.lt, (stored5_mod HBr.out (g := g) (.inl rfl) (s * 10 + k * 5) Tr.zero).alloc _⟩
                  case measure => simp [intOf]; omega
                | false =>
                  cases h3 : (c.way (2 * s + k)).pg == pg with
                  | true =>
                    have HP := hide (show (isDropR false sp pg) (c.way (2 * s + k)) = true by unfold isDropR; rw [h1, h2, h3]; rfl)
                    go_wp2
                    go_roundw
                    case rel =>
                      have hput := HTr.out.put (2 * s + k) (by omega) Tr.zero
                      rw [show (2 * s + k) * 5 = s * 10 + k * 5 by omega, dropAt_yes HP.out, ← HV.out] at hput
                      exact ⟨k + 1, by omega, by rw [← Nat.add_assoc, HV.out, dropN_yes HP.out]; push_cast; rfl, by simp, hput.below (Below.alloc (Below.refl _ _) (Nat.le_refl _) _) hput.lt, (stored5_mod HBr.out (g := g) (.inl rfl) (s * 10 + k * 5) Tr.zero).alloc _⟩
                    case measure => simp [intOf]; omega
                  | false =>
                    have HP := hide (show (isDropR false sp pg) (c.way (2 * s + k)) = false by unfold isDropR; rw [h1, h2, h3]; rfl)
                    go_wp2
                    go_roundw
                    case rel => exact ⟨k + 1, by omega, by rw [← Nat.add_assoc, HV.out, dropN_no HP.out], by simp, by rw [← Nat.add_assoc, HV.out, dropAt_no HP.out]; exact HTr.out.below (Below.alloc (Below.refl _ _) (Nat.le_refl _) _) HTr.out.lt, HBr.out.alloc _⟩
                    case measure => simp [intOf]; omega
          · have HV := hide (vis_no (c := c) (n := 2 * s + k) (by
              by_cases h : (c.way (2 * s + k)).sp = 0
              · simp [h]
              · exact (h0 (HW.out h)).elim))
            go_wp2
            go_roundw
            case rel => exact ⟨k + 1, by omega, by rw [← Nat.add_assoc, HV.out], by simp, by rw [← Nat.add_assoc, HV.out]; exact HTr.out.below (Below.alloc (Below.refl _ _) (Nat.le_refl _) _) HTr.out.lt, HBr.out.alloc _⟩
            case measure => simp [intOf]; omega
        · obtain rfl : k = 2 := by omega
          clear hT hB HT2 HB2
          go_wp2
          go_roundw
          case rel => exact ⟨s + 1, by omega, rfl, by simp, HTr.out, HBr.out⟩
          case measure => simp [intOf]; omega
    · obtain rfl : s = 4 := by omega
      go_wp2
      go_ret
      exact ⟨rfl, HT2.out, HB2.out⟩
end Go.Proofs.Ytlfenakabedmfaa
namespace Go.Proofs.Ytlfenakabedmfaa
open Go.RowKit Go.Shelf
set_option maxRecDepth 100000 in
set_option maxHeartbeats 8000000 in
theorem rall6 (g : Nat) (c : Cache) (w : World) (hT : Ref6At w g c) (hG : Good c) :
    Calls Try.prog 64 #[.pointer (some ⟨g, 0, none⟩)] w fun e w' => ∃ v, e = .returned v ∧ w'.ownsRow w.heap.size 42 5 v (vis c 8).length (rowsOf c (vis c 8)) ∧ Below w.heap.size w w' := by
  obtain ⟨i0, hi0, hz0, hz1, hz2⟩ := info_parts transInfo
  have hlt := hT.lt
  have HT := hide hT
  have HG := hide hG
  clear hT hG
  go_enter Try.func64, Try.ntmps64
  go_wp2
  go_loopw [3, 4] (fun v i wr => ∃ s : Nat, s ≤ 4 ∧ i = .int .i64 s ∧ wr.ownsRow w.heap.size 42 5 v (vis c (2 * s)).length (rowsOf c (vis c (2 * s))) ∧ Ref6At wr g c ∧ Below w.heap.size w wr) (fun _ i _ => 4 - (intOf i).toNat)
  case atStart => exact ⟨0, Nat.zero_le _, rfl, World.ownsRow_nil _ _ _ _, HT.out, Below.refl _ _⟩
  case round =>
    obtain ⟨s, hs, rfl, hR, hT, hB⟩ := hrel
    have HR := hide hR
    have HT2 := hide hT
    have HB2 := hide hB
    clear hR hT hB HT
    by_cases hs4 : s < 4
    · have i1 : (0 : Int) ≤ (s : Int) := by omega
      have i2 : (s : Int) < 4 := by omega
      go_wp2
      go_loopw [3, 5] (fun v i wr => ∃ k : Nat, k ≤ 2 ∧ i = .int .i64 k ∧ wr.ownsRow w.heap.size 42 5 v (vis c (2 * s + k)).length (rowsOf c (vis c (2 * s + k))) ∧ Ref6At wr g c ∧ Below w.heap.size w wr) (fun _ i _ => 2 - (intOf i).toNat)
      case atStart => exact ⟨0, Nat.zero_le _, rfl, HR.out, HT2.out, HB2.out⟩
      case round =>
        obtain ⟨k, hk, rfl, hR, hT, hB⟩ := hrel
        have HR3 := hide hR
        have HT3 := hide hT
        have HB3 := hide hB
        clear hR hB HR HT2 HB2
        by_cases hk2 : k < 2
        · obtain ⟨t0, t1, t2, t3, t4⟩ := hT.cell (2 * s + k) (by omega)
          rw [show (2 * s + k) * 5 = s * 10 + k * 5 by omega] at t0 t1 t2 t3 t4
          have i3 : (0 : Int) ≤ (k : Int) := by omega
          have i4 : (k : Int) < 2 := by omega
          have hv8 := vis_len c (2 * s + k)
          have HW := hide (fun h0 => (HG.out.may (2 * s + k) (by omega) h0).1.1)
          clear hT
          by_cases h0 : 0 < (c.way (2 * s + k)).sp
          · have HV := hide (vis_yes (c := c) (n := 2 * s + k) (by simp; omega))
            have hb4 := HB3.out.alloc HB3.out.size (.cells (c.way (2 * s + k)).row 42)
            have HB4 := hide hb4
            clear hb4
            go_wp2_with (at_builtin; refine wpList_append_own _ rfl (.tmp 24) (.tmp 33) 38 rfl w.heap.size 42 i0 (.agg Tr.zero.row) 5 32 Try.underlying38 hi0 hz0 hz1 hz2 rfl (by decide) _ (vis c (2 * s + k)).length (rowsOf c (vis c (2 * s + k))) rfl (HR3.out.alloc _) ⟨wr.heap.size, 0, none⟩ 1 1 (c.way (2 * s + k)).row.toList rfl rfl (World.news_of_block (heap_alloc_new wr _)) (row_one _) (by unfold maxLen; omega) (by omega) HB4.out.size ?_; intro v' w1 hown hgrow hiff)
            have hrow := hown
            have hb5 := HB4.out.grown hgrow HB4.out.size (fun k e => (HR3.out.lt k e).1)
            have hg5 : Ref6At w1 g c := HT3.out.same ((hgrow.block g (by simp; have := HT3.out.lt; omega) (fun e => by have := (HR3.out.lt g e.symm).1; omega)).trans (Below.heap_alloc _ _ _ HT3.out.lt))
            go_wp2
            go_roundw
            case rel => exact ⟨k + 1, by omega, by simp, by rw [← Nat.add_assoc, HV.out, List.length_append, rowsOf_snoc]; exact hrow, hg5, hb5⟩
            case measure => simp [intOf]; omega
          · have HV := hide (vis_no (c := c) (n := 2 * s + k) (by
              by_cases h : (c.way (2 * s + k)).sp = 0
              · simp [h]
              · exact (h0 (HW.out h)).elim))
            go_wp2
            go_roundw
            case rel => exact ⟨k + 1, by omega, by simp, by rw [← Nat.add_assoc, HV.out]; exact HR3.out, HT3.out, HB3.out⟩
            case measure => simp [intOf]; omega
        · obtain rfl : k = 2 := by omega
          clear hT
          go_wp2
          go_roundw
          case rel => exact ⟨s + 1, by omega, by simp, HR3.out, HT3.out, HB3.out⟩
          case measure => simp [intOf]; omega
    · obtain rfl : s = 4 := by omega
      go_wp2
      go_ret
      exact ⟨_, rfl, HR.out, HB2.out⟩
theorem rall6_rows (g : Nat) (c : Cache) (w : World) (hT : Ref6At w g c) (hG : Good c) :
    Calls Try.prog 64 #[.pointer (some ⟨g, 0, none⟩)] w fun e w' => ∃ A cap, e = .returned (.slice A (vis c 8).length cap) ∧ RowsAt w' w.heap.size A (vis c 8).length (ts c) ∧ Below w.heap.size w w' := by
  refine (rall6 g c w hT hG).mono ?_
  rintro e w' ⟨v, rfl, hrow, hb⟩
  obtain ⟨A, cap, rfl, hr⟩ := rows_of_owns hrow
  exact ⟨A, cap, rfl, hr, hb⟩
end Go.Proofs.Ytlfenakabedmfaa
