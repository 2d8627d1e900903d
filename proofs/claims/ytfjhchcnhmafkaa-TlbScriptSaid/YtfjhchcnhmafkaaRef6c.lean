/- The reference of chapter 6: Drop. -/
import Derived.Test.YtfjhchcnhmafkaaRef6b
namespace Go.Proofs.Ytfjhchcnhmafkaa
open Go.RowKit Go.Shelf
def isDropR (all : Bool) (sp pg : Int) (y : Tr) : Bool := all || (y.sp == sp && (pg == -1 || y.pg == pg))
theorem vis_self (c : Cache) (P : Tr → Bool) (i : Nat) : (dropAt c P (vis c i)).way i = c.way i := by
  simp only [dropAt]
  rw [if_neg (fun h => by have := (mem_vis.1 h.1).1; omega)]
set_option maxRecDepth 100000 in
set_option maxHeartbeats 8000000 in
theorem rdrop6 (g : Nat) (c : Cache) (sp pg : Int) (all : Bool) (w : World) (hT : Ref6At w g c) (hG : Good c) :
    Calls Try.prog 36 #[.pointer (some ⟨g, 0, none⟩), .int .i64 sp, .int .i64 pg, .bool all] w fun e w' => e = .returned (.int .i64 (dropN c (isDropR all sp pg) (vis c 8))) ∧ Ref6At w' g (dropAt c (isDropR all sp pg) (vis c 8)) ∧ Mod (· = g) w w' := by
  have hlt := hT.lt
  have HT := hide hT
  have HG := hide hG
  clear hT hG
  go_enter Try.func36, Try.ntmps36
  go_wp2
  go_loopw [9, 10] (fun n i wr => ∃ s : Nat, s ≤ 4 ∧ n = .int .i64 (dropN c (isDropR all sp pg) (vis c (2 * s)) : Nat) ∧ i = .int .i64 s ∧ Ref6At wr g (dropAt c (isDropR all sp pg) (vis c (2 * s))) ∧ Mod (· = g) w wr) (fun _ i _ => 4 - (intOf i).toNat)
  case atStart => exact ⟨0, Nat.zero_le _, rfl, rfl, by rw [show vis c (2 * 0) = [] from rfl, dropAt_nil]; exact HT.out, Mod.refl _ _⟩
  case round =>
    obtain ⟨s, hs, rfl, rfl, hT, hB⟩ := hrel
    have HT2 := hide hT
    have HB2 := hide hB
    clear hT hB HT
    by_cases hs4 : s < 4
    · have i1 : (0 : Int) ≤ (s : Int) := by omega
      have i2 : (s : Int) < 4 := by omega
      go_wp2
      go_loopw [9, 11] (fun n i wr => ∃ k : Nat, k ≤ 2 ∧ n = .int .i64 (dropN c (isDropR all sp pg) (vis c (2 * s + k)) : Nat) ∧ i = .int .i64 k ∧ Ref6At wr g (dropAt c (isDropR all sp pg) (vis c (2 * s + k))) ∧ Mod (· = g) w wr) (fun _ i _ => 2 - (intOf i).toNat)
      case atStart => exact ⟨0, Nat.zero_le _, rfl, rfl, HT2.out, HB2.out⟩
      case round =>
        obtain ⟨k, hk, rfl, rfl, hT, hB⟩ := hrel
        have HTr := hide hT
        have HBr := hide hB
        by_cases hk2 : k < 2
        · obtain ⟨t0, t1, t2, t3, t4⟩ := hT.cell (2 * s + k) (by omega)
          rw [vis_self, show (2 * s + k) * 5 = s * 10 + k * 5 by omega] at t0 t1 t2 t3 t4
          have q0 := hT.frozen (s * 10 + k * 5)
          have q1 := hT.frozen (s * 10 + k * 5 + 1)
          have q2 := hT.frozen (s * 10 + k * 5 + 2)
          have q3 := hT.frozen (s * 10 + k * 5 + 3)
          have q4 := hT.frozen (s * 10 + k * 5 + 4)
          have hgl := hT.lt
          have i3 : (0 : Int) ≤ (k : Int) := by omega
          have i4 : (k : Int) < 2 := by omega
          have hd := dropN_le c (isDropR all sp pg) (vis c (2 * s + k))
          have hv8 := vis_len c (2 * s + k)
          have i5 : (0 : Int) ≤ ((dropN c (isDropR all sp pg) (vis c (2 * s + k)) : Nat) : Int) := by omega
          have i6 : ((dropN c (isDropR all sp pg) (vis c (2 * s + k)) : Nat) : Int) ≤ 8 := by omega
          have HW := hide (fun h0 => (HG.out.may (2 * s + k) (by omega) h0).1.1)
          clear hT hB HT2 HB2 hd hv8
          by_cases h0 : 0 < (c.way (2 * s + k)).sp
          · have HV := hide (vis_yes (c := c) (n := 2 * s + k) (by simp; omega))
            cases all with
            | true =>
              have HP := hide (show (isDropR true sp pg) (c.way (2 * s + k)) = true by rfl)
              go_wp2
              go_roundw
              case rel =>
                have hput := HTr.out.put (2 * s + k) (by omega) Tr.zero
                rw [show (2 * s + k) * 5 = s * 10 + k * 5 by omega, dropAt_yes HP.out, ← HV.out] at hput
                exact ⟨k + 1, by omega, by rw [← Nat.add_assoc, HV.out, dropN_yes HP.out]; push_cast; rfl, by simp, hput.below (Below.alloc (Below.refl _ _) (Nat.le_refl _) _) hput.lt, (stored5_mod HBr.out (g := g) (.inl rfl) (s * 10 + k * 5) Tr.zero).alloc _⟩
              case measure => simp [intOf]; omega
            | false =>
              cases h1 : (c.way (2 * s + k)).sp == sp with
              | false =>
                have HP := hide (show (isDropR false sp pg) (c.way (2 * s + k)) = false by unfold isDropR; rw [h1]; rfl)
                go_wp2
                go_roundw
                case rel => exact ⟨k + 1, by omega, by rw [← Nat.add_assoc, HV.out, dropN_no HP.out], by simp, by rw [← Nat.add_assoc, HV.out, dropAt_no HP.out]; exact HTr.out.below (Below.alloc (Below.refl _ _) (Nat.le_refl _) _) HTr.out.lt, HBr.out.alloc _⟩
                case measure => simp [intOf]; omega
              | true =>
                cases h2 : pg == -1 with
                | true =>
                  have HP := hide (show (isDropR false sp pg) (c.way (2 * s + k)) = true by unfold isDropR; rw [h1, h2]; rfl)
                  go_wp2
                  go_roundw
                  case rel =>
                    have hput := HTr.out.put (2 * s + k) (by omega) Tr.zero
                    rw [show (2 * s + k) * 5 = s * 10 + k * 5 by omega, dropAt_yes HP.out, ← HV.out] at hput
                    exact ⟨k + 1, by omega, by rw [← Nat.add_assoc, HV.out, dropN_yes HP.out]; push_cast; rfl, by simp, hput.below (Below.alloc (Below.refl _ _) (Nat.le_refl _) _) hput.lt, (stored5_mod HBr.out (g := g) (.inl rfl) (s * 10 + k * 5) Tr.zero).alloc _⟩
                  case measure => simp [intOf]; omega
                | false =>
                  cases h3 : (c.way (2 * s + k)).pg == pg with
                  | true =>
                    have HP := hide (show (isDropR false sp pg) (c.way (2 * s + k)) = true by unfold isDropR; rw [h1, h2, h3]; rfl)
                    go_wp2
                    go_roundw
                    case rel =>
                      have hput := HTr.out.put (2 * s + k) (by omega) Tr.zero
                      rw [show (2 * s + k) * 5 = s * 10 + k * 5 by omega, dropAt_yes HP.out, ← HV.out] at hput
                      exact ⟨k + 1, by omega, by rw [← Nat.add_assoc, HV.out, dropN_yes HP.out]; push_cast; rfl, by simp, hput.below (Below.alloc (Below.refl _ _) (Nat.le_refl _) _) hput.lt, (stored5_mod HBr.out (g := g) (.inl rfl) (s * 10 + k * 5) Tr.zero).alloc _⟩
                    case measure => simp [intOf]; omega
                  | false =>
                    have HP := hide (show (isDropR false sp pg) (c.way (2 * s + k)) = false by unfold isDropR; rw [h1, h2, h3]; rfl)
                    go_wp2
                    go_roundw
                    case rel => exact ⟨k + 1, by omega, by rw [← Nat.add_assoc, HV.out, dropN_no HP.out], by simp, by rw [← Nat.add_assoc, HV.out, dropAt_no HP.out]; exact HTr.out.below (Below.alloc (Below.refl _ _) (Nat.le_refl _) _) HTr.out.lt, HBr.out.alloc _⟩
                    case measure => simp [intOf]; omega
          · have HV := hide (vis_no (c := c) (n := 2 * s + k) (by
              by_cases h : (c.way (2 * s + k)).sp = 0
              · simp [h]
              · exact (h0 (HW.out h)).elim))
            go_wp2
            go_roundw
            case rel => exact ⟨k + 1, by omega, by rw [← Nat.add_assoc, HV.out], by simp, by rw [← Nat.add_assoc, HV.out]; exact HTr.out.below (Below.alloc (Below.refl _ _) (Nat.le_refl _) _) HTr.out.lt, HBr.out.alloc _⟩
            case measure => simp [intOf]; omega
        · obtain rfl : k = 2 := by omega
          clear hT hB HT2 HB2
          go_wp2
          go_roundw
          case rel => exact ⟨s + 1, by omega, rfl, by simp, HTr.out, HBr.out⟩
          case measure => simp [intOf]; omega
    · obtain rfl : s = 4 := by omega
      go_wp2
      go_ret
      exact ⟨rfl, HT2.out, HB2.out⟩
end Go.Proofs.Ytfjhchcnhmafkaa
