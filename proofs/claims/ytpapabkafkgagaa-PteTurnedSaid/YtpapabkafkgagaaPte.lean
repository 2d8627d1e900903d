/- The walks of package pte: May, flags, Encode, each at every argument of its types. -/
import Derived.Test.YtpapabkafkgagaaWord
import Derived.RegionTactic
import Derived.ChangeAlike
import Derived.BigRegion
namespace Go.Proofs.Ytpapabkafkgagaa
open Go.RowKit

/-- May the entry be? -/
def mayB (v l r s : Bool) (f : Int) : Bool := if v then decide (0 ≤ f ∧ f < 64) && (l == (r || s)) else !l && !r && !s && f == 0
set_option maxHeartbeats 1000000 in
theorem pmay_off (l r s : Bool) (f : Int) (w : World) :
    Calls Try.prog 14 #[.agg #[.bool false, .bool l, .bool r, .bool s, .int .i64 f]] w fun e w' => e = .returned (.bool (mayB false l r s f)) ∧ Below w.heap.size w w' := by
  by_cases hf : f = 0
  · subst hf
    cases l <;> cases r <;> cases s
    all_goals
      go_enter Try.func14, Try.ntmps14
      go_wp2
      go_ret
      exact ⟨rfl, by go_grown⟩
  · have e : mayB false l r s f = false := by simp [mayB, hf]
    have t : (f == 0) = false := beq_eq_false_iff_ne.2 hf
    rw [e]
    clear e hf
    cases l <;> cases r <;> cases s
    all_goals
      go_enter Try.func14, Try.ntmps14
      go_wp2
      go_ret
      exact ⟨rfl, by go_grown⟩
set_option maxHeartbeats 1000000 in
theorem pmay_on (l r s : Bool) (f : Int) (w : World) :
    Calls Try.prog 14 #[.agg #[.bool true, .bool l, .bool r, .bool s, .int .i64 f]] w fun e w' => e = .returned (.bool (mayB true l r s f)) ∧ Below w.heap.size w w' := by
  by_cases h0 : f < 0
  · have e : mayB true l r s f = false := by simp [mayB]; omega
    rw [e]
    clear e
    go_enter Try.func14, Try.ntmps14
    go_wp2
    go_ret
    exact ⟨rfl, by go_grown⟩
  by_cases h1 : 64 ≤ f
  · have e : mayB true l r s f = false := by simp [mayB]; omega
    rw [e]
    clear e
    go_enter Try.func14, Try.ntmps14
    go_wp2
    go_ret
    exact ⟨rfl, by go_grown⟩
  · have h2 : 0 ≤ f := by omega
    have h3 : f < 64 := by omega
    have e : mayB true l r s f = (l == (r || s)) := by simp [mayB, h2, h3]
    rw [e]
    clear e h0 h1
    cases l <;> cases r <;> cases s
    all_goals
      go_enter Try.func14, Try.ntmps14
      go_wp2
      go_ret
      exact ⟨rfl, by go_grown⟩
theorem pmay_any (v l r s : Bool) (f : Int) (w : World) :
    Calls Try.prog 14 #[.agg #[.bool v, .bool l, .bool r, .bool s, .int .i64 f]] w fun e w' => e = .returned (.bool (mayB v l r s f)) ∧ Below w.heap.size w w' := by
  cases v
  · exact pmay_off l r s f w
  · exact pmay_on l r s f w
theorem flags_any (g : Nat) (w : World) :
    Calls Try.prog 26 #[.pointer (some ⟨g, 0, none⟩)] w fun e w' => e = .returned (.agg #[.pointer (some ⟨g, 0, none⟩), .pointer (some ⟨g, 1, none⟩), .pointer (some ⟨g, 2, none⟩), .pointer (some ⟨g, 3, none⟩)]) ∧ Below w.heap.size w w' := by
  go_enter Try.func26, Try.ntmps26
  go_wp2
  go_region
  go_wp2
  go_returns
  exact ⟨rfl, by go_grown⟩

/-! Encode -/
/-- An entry's word, if it may be. -/
def entV (v l r s : Bool) (f : Int) : Int := (if v then 1 else 0) + (if l then 2 else 0) + (if r then 4 else 0) + (if s then 8 else 0) + f * 256
theorem enc_no (v l r s : Bool) (f : Int) (w : World) (h : mayB v l r s f = false) :
    Calls Try.prog 11 #[.agg #[.bool v, .bool l, .bool r, .bool s, .int .i64 f]] w fun e w' => e = .returned (.tuple #[.int .u64 0, .int .i64 5]) ∧ Below w.heap.size w w' := by
  have H := hide h
  clear h
  go_enter Try.func11, Try.ntmps11
  go_wp2_with fail
  refine (pmay_any v l r s f _).mono ?_
  rintro e w1 ⟨rfl, hb1⟩
  rw [H.out]
  have hB := ((Below.refl w.heap.size w).alloc (Nat.le_refl _) (.cells #[.bool v, .bool l, .bool r, .bool s, .int .i64 f] 23)).trans (hb1.mono (by simp))
  go_wp2_with fail
  go_ret2
  exact ⟨rfl, hB⟩
set_option maxHeartbeats 1000000 in
theorem enc_zero (w : World) :
    Calls Try.prog 11 #[.agg #[.bool false, .bool false, .bool false, .bool false, .int .i64 0]] w fun e w' => e = .returned (.tuple #[.int .u64 (0), .int .i64 0]) ∧ Below w.heap.size w w' := by
  have hm : mayB false false false false 0 = true := by simp [mayB]
  have H := hide hm
  clear hm
  have i0 : ∀ g w, (Instr.index 62 (.agg #[.pointer (some ⟨g, 0, none⟩), .pointer (some ⟨g, 1, none⟩), .pointer (some ⟨g, 2, none⟩), .pointer (some ⟨g, 3, none⟩)]) (.int .i64 0)).run Try.prog w = .ok (.pointer (some ⟨g, 0, none⟩)) w := fun _ _ => by kernel_rfl
  have i1 : ∀ g w, (Instr.index 62 (.agg #[.pointer (some ⟨g, 0, none⟩), .pointer (some ⟨g, 1, none⟩), .pointer (some ⟨g, 2, none⟩), .pointer (some ⟨g, 3, none⟩)]) (.int .i64 1)).run Try.prog w = .ok (.pointer (some ⟨g, 1, none⟩)) w := fun _ _ => by kernel_rfl
  have i2 : ∀ g w, (Instr.index 62 (.agg #[.pointer (some ⟨g, 0, none⟩), .pointer (some ⟨g, 1, none⟩), .pointer (some ⟨g, 2, none⟩), .pointer (some ⟨g, 3, none⟩)]) (.int .i64 2)).run Try.prog w = .ok (.pointer (some ⟨g, 2, none⟩)) w := fun _ _ => by kernel_rfl
  have i3 : ∀ g w, (Instr.index 62 (.agg #[.pointer (some ⟨g, 0, none⟩), .pointer (some ⟨g, 1, none⟩), .pointer (some ⟨g, 2, none⟩), .pointer (some ⟨g, 3, none⟩)]) (.int .i64 3)).run Try.prog w = .ok (.pointer (some ⟨g, 3, none⟩)) w := fun _ _ => by kernel_rfl
  go_enter Try.func11, Try.ntmps11
  go_wp2_with fail
  have hk0 := Blk.new w 23 #[.bool false, .bool false, .bool false, .bool false, .int .i64 0]
  have hB0 := (Below.refl w.heap.size w).alloc (Nat.le_refl _) (.cells #[.bool false, .bool false, .bool false, .bool false, .int .i64 0] 23)
  have hz0 : w.heap.size < (w.alloc (.cells #[.bool false, .bool false, .bool false, .bool false, .int .i64 0] 23)).heap.size := by simp
  generalize w.alloc (.cells #[.bool false, .bool false, .bool false, .bool false, .int .i64 0] 23) = W0 at hk0 hB0 hz0 ⊢
  obtain ⟨g, hg⟩ : ∃ g, w.heap.size = g := ⟨_, rfl⟩
  rw [hg] at hk0 hB0 hz0 ⊢
  have HG := hide hg
  clear hg
  obtain ⟨c00, c01, c02, c03, c04⟩ := hk0.c5
  go_wp2_with fail
  refine (pmay_any _ _ _ _ _ _).mono ?_
  rintro e W1 ⟨rfl, hb1⟩
  rw [H.out]
  have hk1 := hk0.below hb1 hz0
  have hz1 := Nat.lt_of_lt_of_le hz0 hb1.size
  have hB1 := hB0.trans (hb1.mono (Nat.le_of_lt hz0))
  clear hb1 hk0 hz0 hB0
  obtain ⟨c10, c11, c12, c13, c14⟩ := hk1.c5
  go_wp2_with fail
  refine (with_yes 0 8 6 0 _ (by omega) (by omega) ⟨by omega, by omega, by omega, by omega, by omega⟩ (by omega) (by decide)).mono ?_
  rintro e W2 ⟨rfl, hb2⟩
  rw [show putV 0 8 6 0 = 0 from by simp [putV]]
  have hk2 := hk1.below hb2 hz1
  have hz2 := Nat.lt_of_lt_of_le hz1 hb2.size
  have hB2 := hB1.trans (hb2.mono (Nat.le_of_lt hz1))
  clear hb2 hk1 hz1 hB1
  obtain ⟨c20, c21, c22, c23, c24⟩ := hk2.c5
  go_wp2_with fail
  refine (flags_any g _).mono ?_
  rintro e W3 ⟨rfl, hb3⟩
  have hk3 := hk2.below hb3 hz2
  have hz3 := Nat.lt_of_lt_of_le hz2 hb3.size
  have hB3 := hB2.trans (hb3.mono (Nat.le_of_lt hz2))
  clear hb3 hk2 hz2 hB2
  obtain ⟨c30, c31, c32, c33, c34⟩ := hk3.c5
  go_wp2_with fail
  refine wp_loop_rounds 5 ?_
  rw [rounds_succ]
  go_wp2_with fail
  rw [rounds_succ]
  go_wp2_with fail
  rw [rounds_succ]
  go_wp2_with fail
  rw [rounds_succ]
  go_wp2_with fail
  rw [rounds_succ]
  go_wp2_with fail
  go_ret2
  exact ⟨rfl, by rw [HG.out]; exact hB3⟩
set_option maxHeartbeats 1000000 in
theorem enc_00 (f : Int) (h0 : 0 ≤ f) (h1 : f < 64) (w : World) :
    Calls Try.prog 11 #[.agg #[.bool true, .bool false, .bool false, .bool false, .int .i64 f]] w fun e w' => e = .returned (.tuple #[.int .u64 (1 + f * 256), .int .i64 0]) ∧ Below w.heap.size w w' := by
  have hm : mayB true false false false f = true := by simp [mayB, h0, h1]
  have H := hide hm
  clear hm
  have i0 : ∀ g w, (Instr.index 62 (.agg #[.pointer (some ⟨g, 0, none⟩), .pointer (some ⟨g, 1, none⟩), .pointer (some ⟨g, 2, none⟩), .pointer (some ⟨g, 3, none⟩)]) (.int .i64 0)).run Try.prog w = .ok (.pointer (some ⟨g, 0, none⟩)) w := fun _ _ => by kernel_rfl
  have i1 : ∀ g w, (Instr.index 62 (.agg #[.pointer (some ⟨g, 0, none⟩), .pointer (some ⟨g, 1, none⟩), .pointer (some ⟨g, 2, none⟩), .pointer (some ⟨g, 3, none⟩)]) (.int .i64 1)).run Try.prog w = .ok (.pointer (some ⟨g, 1, none⟩)) w := fun _ _ => by kernel_rfl
  have i2 : ∀ g w, (Instr.index 62 (.agg #[.pointer (some ⟨g, 0, none⟩), .pointer (some ⟨g, 1, none⟩), .pointer (some ⟨g, 2, none⟩), .pointer (some ⟨g, 3, none⟩)]) (.int .i64 2)).run Try.prog w = .ok (.pointer (some ⟨g, 2, none⟩)) w := fun _ _ => by kernel_rfl
  have i3 : ∀ g w, (Instr.index 62 (.agg #[.pointer (some ⟨g, 0, none⟩), .pointer (some ⟨g, 1, none⟩), .pointer (some ⟨g, 2, none⟩), .pointer (some ⟨g, 3, none⟩)]) (.int .i64 3)).run Try.prog w = .ok (.pointer (some ⟨g, 3, none⟩)) w := fun _ _ => by kernel_rfl
  go_enter Try.func11, Try.ntmps11
  go_wp2_with fail
  have hk0 := Blk.new w 23 #[.bool true, .bool false, .bool false, .bool false, .int .i64 f]
  have hB0 := (Below.refl w.heap.size w).alloc (Nat.le_refl _) (.cells #[.bool true, .bool false, .bool false, .bool false, .int .i64 f] 23)
  have hz0 : w.heap.size < (w.alloc (.cells #[.bool true, .bool false, .bool false, .bool false, .int .i64 f] 23)).heap.size := by simp
  generalize w.alloc (.cells #[.bool true, .bool false, .bool false, .bool false, .int .i64 f] 23) = W0 at hk0 hB0 hz0 ⊢
  obtain ⟨g, hg⟩ : ∃ g, w.heap.size = g := ⟨_, rfl⟩
  rw [hg] at hk0 hB0 hz0 ⊢
  have HG := hide hg
  clear hg
  obtain ⟨c00, c01, c02, c03, c04⟩ := hk0.c5
  go_wp2_with fail
  refine (pmay_any _ _ _ _ _ _).mono ?_
  rintro e W1 ⟨rfl, hb1⟩
  rw [H.out]
  have hk1 := hk0.below hb1 hz0
  have hz1 := Nat.lt_of_lt_of_le hz0 hb1.size
  have hB1 := hB0.trans (hb1.mono (Nat.le_of_lt hz0))
  clear hb1 hk0 hz0 hB0
  obtain ⟨c10, c11, c12, c13, c14⟩ := hk1.c5
  go_wp2_with fail
  refine (with_yes 0 8 6 f _ (by omega) (by omega) ⟨by omega, by omega, by omega, by omega, by omega⟩ (by omega) (by simp; omega)).mono ?_
  rintro e W2 ⟨rfl, hb2⟩
  rw [show putV 0 8 6 f = f * 256 from by simp [putV]]
  have hk2 := hk1.below hb2 hz1
  have hz2 := Nat.lt_of_lt_of_le hz1 hb2.size
  have hB2 := hB1.trans (hb2.mono (Nat.le_of_lt hz1))
  clear hb2 hk1 hz1 hB1
  obtain ⟨c20, c21, c22, c23, c24⟩ := hk2.c5
  go_wp2_with fail
  refine (flags_any g _).mono ?_
  rintro e W3 ⟨rfl, hb3⟩
  have hk3 := hk2.below hb3 hz2
  have hz3 := Nat.lt_of_lt_of_le hz2 hb3.size
  have hB3 := hB2.trans (hb3.mono (Nat.le_of_lt hz2))
  clear hb3 hk2 hz2 hB2
  obtain ⟨c30, c31, c32, c33, c34⟩ := hk3.c5
  go_wp2_with fail
  refine wp_loop_rounds 5 ?_
  rw [rounds_succ]
  go_wp2_with fail
  refine (with_yes (f * 256) 0 1 1 _ (by omega) (by omega) ⟨by omega, by omega, by omega, by omega, by omega⟩ (by omega) (by decide)).mono ?_
  rintro e W4 ⟨rfl, hb4⟩
  rw [show putV (f * 256) 0 1 1 = 1 + f * 256 from by simp [putV]; omega]
  have hk4 := hk3.below hb4 hz3
  have hz4 := Nat.lt_of_lt_of_le hz3 hb4.size
  have hB4 := hB3.trans (hb4.mono (Nat.le_of_lt hz3))
  clear hb4 hk3 hz3 hB3
  obtain ⟨c40, c41, c42, c43, c44⟩ := hk4.c5
  go_wp2_with fail
  rw [rounds_succ]
  go_wp2_with fail
  rw [rounds_succ]
  go_wp2_with fail
  rw [rounds_succ]
  go_wp2_with fail
  rw [rounds_succ]
  go_wp2_with fail
  go_ret2
  exact ⟨rfl, by rw [HG.out]; exact hB4⟩
set_option maxHeartbeats 1000000 in
theorem enc_01 (f : Int) (h0 : 0 ≤ f) (h1 : f < 64) (w : World) :
    Calls Try.prog 11 #[.agg #[.bool true, .bool true, .bool false, .bool true, .int .i64 f]] w fun e w' => e = .returned (.tuple #[.int .u64 (11 + f * 256), .int .i64 0]) ∧ Below w.heap.size w w' := by
  have hm : mayB true true false true f = true := by simp [mayB, h0, h1]
  have H := hide hm
  clear hm
  have i0 : ∀ g w, (Instr.index 62 (.agg #[.pointer (some ⟨g, 0, none⟩), .pointer (some ⟨g, 1, none⟩), .pointer (some ⟨g, 2, none⟩), .pointer (some ⟨g, 3, none⟩)]) (.int .i64 0)).run Try.prog w = .ok (.pointer (some ⟨g, 0, none⟩)) w := fun _ _ => by kernel_rfl
  have i1 : ∀ g w, (Instr.index 62 (.agg #[.pointer (some ⟨g, 0, none⟩), .pointer (some ⟨g, 1, none⟩), .pointer (some ⟨g, 2, none⟩), .pointer (some ⟨g, 3, none⟩)]) (.int .i64 1)).run Try.prog w = .ok (.pointer (some ⟨g, 1, none⟩)) w := fun _ _ => by kernel_rfl
  have i2 : ∀ g w, (Instr.index 62 (.agg #[.pointer (some ⟨g, 0, none⟩), .pointer (some ⟨g, 1, none⟩), .pointer (some ⟨g, 2, none⟩), .pointer (some ⟨g, 3, none⟩)]) (.int .i64 2)).run Try.prog w = .ok (.pointer (some ⟨g, 2, none⟩)) w := fun _ _ => by kernel_rfl
  have i3 : ∀ g w, (Instr.index 62 (.agg #[.pointer (some ⟨g, 0, none⟩), .pointer (some ⟨g, 1, none⟩), .pointer (some ⟨g, 2, none⟩), .pointer (some ⟨g, 3, none⟩)]) (.int .i64 3)).run Try.prog w = .ok (.pointer (some ⟨g, 3, none⟩)) w := fun _ _ => by kernel_rfl
  go_enter Try.func11, Try.ntmps11
  go_wp2_with fail
  have hk0 := Blk.new w 23 #[.bool true, .bool true, .bool false, .bool true, .int .i64 f]
  have hB0 := (Below.refl w.heap.size w).alloc (Nat.le_refl _) (.cells #[.bool true, .bool true, .bool false, .bool true, .int .i64 f] 23)
  have hz0 : w.heap.size < (w.alloc (.cells #[.bool true, .bool true, .bool false, .bool true, .int .i64 f] 23)).heap.size := by simp
  generalize w.alloc (.cells #[.bool true, .bool true, .bool false, .bool true, .int .i64 f] 23) = W0 at hk0 hB0 hz0 ⊢
  obtain ⟨g, hg⟩ : ∃ g, w.heap.size = g := ⟨_, rfl⟩
  rw [hg] at hk0 hB0 hz0 ⊢
  have HG := hide hg
  clear hg
  obtain ⟨c00, c01, c02, c03, c04⟩ := hk0.c5
  go_wp2_with fail
  refine (pmay_any _ _ _ _ _ _).mono ?_
  rintro e W1 ⟨rfl, hb1⟩
  rw [H.out]
  have hk1 := hk0.below hb1 hz0
  have hz1 := Nat.lt_of_lt_of_le hz0 hb1.size
  have hB1 := hB0.trans (hb1.mono (Nat.le_of_lt hz0))
  clear hb1 hk0 hz0 hB0
  obtain ⟨c10, c11, c12, c13, c14⟩ := hk1.c5
  go_wp2_with fail
  refine (with_yes 0 8 6 f _ (by omega) (by omega) ⟨by omega, by omega, by omega, by omega, by omega⟩ (by omega) (by simp; omega)).mono ?_
  rintro e W2 ⟨rfl, hb2⟩
  rw [show putV 0 8 6 f = f * 256 from by simp [putV]]
  have hk2 := hk1.below hb2 hz1
  have hz2 := Nat.lt_of_lt_of_le hz1 hb2.size
  have hB2 := hB1.trans (hb2.mono (Nat.le_of_lt hz1))
  clear hb2 hk1 hz1 hB1
  obtain ⟨c20, c21, c22, c23, c24⟩ := hk2.c5
  go_wp2_with fail
  refine (flags_any g _).mono ?_
  rintro e W3 ⟨rfl, hb3⟩
  have hk3 := hk2.below hb3 hz2
  have hz3 := Nat.lt_of_lt_of_le hz2 hb3.size
  have hB3 := hB2.trans (hb3.mono (Nat.le_of_lt hz2))
  clear hb3 hk2 hz2 hB2
  obtain ⟨c30, c31, c32, c33, c34⟩ := hk3.c5
  go_wp2_with fail
  refine wp_loop_rounds 5 ?_
  rw [rounds_succ]
  go_wp2_with fail
  refine (with_yes (f * 256) 0 1 1 _ (by omega) (by omega) ⟨by omega, by omega, by omega, by omega, by omega⟩ (by omega) (by decide)).mono ?_
  rintro e W4 ⟨rfl, hb4⟩
  rw [show putV (f * 256) 0 1 1 = 1 + f * 256 from by simp [putV]; omega]
  have hk4 := hk3.below hb4 hz3
  have hz4 := Nat.lt_of_lt_of_le hz3 hb4.size
  have hB4 := hB3.trans (hb4.mono (Nat.le_of_lt hz3))
  clear hb4 hk3 hz3 hB3
  obtain ⟨c40, c41, c42, c43, c44⟩ := hk4.c5
  go_wp2_with fail
  rw [rounds_succ]
  go_wp2_with fail
  refine (with_yes (1 + f * 256) 1 1 1 _ (by omega) (by omega) ⟨by omega, by omega, by omega, by omega, by omega⟩ (by omega) (by decide)).mono ?_
  rintro e W5 ⟨rfl, hb5⟩
  rw [show putV (1 + f * 256) 1 1 1 = 3 + f * 256 from by simp [putV]; omega]
  have hk5 := hk4.below hb5 hz4
  have hz5 := Nat.lt_of_lt_of_le hz4 hb5.size
  have hB5 := hB4.trans (hb5.mono (Nat.le_of_lt hz4))
  clear hb5 hk4 hz4 hB4
  obtain ⟨c50, c51, c52, c53, c54⟩ := hk5.c5
  go_wp2_with fail
  rw [rounds_succ]
  go_wp2_with fail
  rw [rounds_succ]
  go_wp2_with fail
  refine (with_yes (3 + f * 256) 3 1 1 _ (by omega) (by omega) ⟨by omega, by omega, by omega, by omega, by omega⟩ (by omega) (by decide)).mono ?_
  rintro e W6 ⟨rfl, hb6⟩
  rw [show putV (3 + f * 256) 3 1 1 = 11 + f * 256 from by simp [putV]; omega]
  have hk6 := hk5.below hb6 hz5
  have hz6 := Nat.lt_of_lt_of_le hz5 hb6.size
  have hB6 := hB5.trans (hb6.mono (Nat.le_of_lt hz5))
  clear hb6 hk5 hz5 hB5
  obtain ⟨c60, c61, c62, c63, c64⟩ := hk6.c5
  go_wp2_with fail
  rw [rounds_succ]
  go_wp2_with fail
  go_ret2
  exact ⟨rfl, by rw [HG.out]; exact hB6⟩
set_option maxHeartbeats 1000000 in
theorem enc_10 (f : Int) (h0 : 0 ≤ f) (h1 : f < 64) (w : World) :
    Calls Try.prog 11 #[.agg #[.bool true, .bool true, .bool true, .bool false, .int .i64 f]] w fun e w' => e = .returned (.tuple #[.int .u64 (7 + f * 256), .int .i64 0]) ∧ Below w.heap.size w w' := by
  have hm : mayB true true true false f = true := by simp [mayB, h0, h1]
  have H := hide hm
  clear hm
  have i0 : ∀ g w, (Instr.index 62 (.agg #[.pointer (some ⟨g, 0, none⟩), .pointer (some ⟨g, 1, none⟩), .pointer (some ⟨g, 2, none⟩), .pointer (some ⟨g, 3, none⟩)]) (.int .i64 0)).run Try.prog w = .ok (.pointer (some ⟨g, 0, none⟩)) w := fun _ _ => by kernel_rfl
  have i1 : ∀ g w, (Instr.index 62 (.agg #[.pointer (some ⟨g, 0, none⟩), .pointer (some ⟨g, 1, none⟩), .pointer (some ⟨g, 2, none⟩), .pointer (some ⟨g, 3, none⟩)]) (.int .i64 1)).run Try.prog w = .ok (.pointer (some ⟨g, 1, none⟩)) w := fun _ _ => by kernel_rfl
  have i2 : ∀ g w, (Instr.index 62 (.agg #[.pointer (some ⟨g, 0, none⟩), .pointer (some ⟨g, 1, none⟩), .pointer (some ⟨g, 2, none⟩), .pointer (some ⟨g, 3, none⟩)]) (.int .i64 2)).run Try.prog w = .ok (.pointer (some ⟨g, 2, none⟩)) w := fun _ _ => by kernel_rfl
  have i3 : ∀ g w, (Instr.index 62 (.agg #[.pointer (some ⟨g, 0, none⟩), .pointer (some ⟨g, 1, none⟩), .pointer (some ⟨g, 2, none⟩), .pointer (some ⟨g, 3, none⟩)]) (.int .i64 3)).run Try.prog w = .ok (.pointer (some ⟨g, 3, none⟩)) w := fun _ _ => by kernel_rfl
  go_enter Try.func11, Try.ntmps11
  go_wp2_with fail
  have hk0 := Blk.new w 23 #[.bool true, .bool true, .bool true, .bool false, .int .i64 f]
  have hB0 := (Below.refl w.heap.size w).alloc (Nat.le_refl _) (.cells #[.bool true, .bool true, .bool true, .bool false, .int .i64 f] 23)
  have hz0 : w.heap.size < (w.alloc (.cells #[.bool true, .bool true, .bool true, .bool false, .int .i64 f] 23)).heap.size := by simp
  generalize w.alloc (.cells #[.bool true, .bool true, .bool true, .bool false, .int .i64 f] 23) = W0 at hk0 hB0 hz0 ⊢
  obtain ⟨g, hg⟩ : ∃ g, w.heap.size = g := ⟨_, rfl⟩
  rw [hg] at hk0 hB0 hz0 ⊢
  have HG := hide hg
  clear hg
  obtain ⟨c00, c01, c02, c03, c04⟩ := hk0.c5
  go_wp2_with fail
  refine (pmay_any _ _ _ _ _ _).mono ?_
  rintro e W1 ⟨rfl, hb1⟩
  rw [H.out]
  have hk1 := hk0.below hb1 hz0
  have hz1 := Nat.lt_of_lt_of_le hz0 hb1.size
  have hB1 := hB0.trans (hb1.mono (Nat.le_of_lt hz0))
  clear hb1 hk0 hz0 hB0
  obtain ⟨c10, c11, c12, c13, c14⟩ := hk1.c5
  go_wp2_with fail
  refine (with_yes 0 8 6 f _ (by omega) (by omega) ⟨by omega, by omega, by omega, by omega, by omega⟩ (by omega) (by simp; omega)).mono ?_
  rintro e W2 ⟨rfl, hb2⟩
  rw [show putV 0 8 6 f = f * 256 from by simp [putV]]
  have hk2 := hk1.below hb2 hz1
  have hz2 := Nat.lt_of_lt_of_le hz1 hb2.size
  have hB2 := hB1.trans (hb2.mono (Nat.le_of_lt hz1))
  clear hb2 hk1 hz1 hB1
  obtain ⟨c20, c21, c22, c23, c24⟩ := hk2.c5
  go_wp2_with fail
  refine (flags_any g _).mono ?_
  rintro e W3 ⟨rfl, hb3⟩
  have hk3 := hk2.below hb3 hz2
  have hz3 := Nat.lt_of_lt_of_le hz2 hb3.size
  have hB3 := hB2.trans (hb3.mono (Nat.le_of_lt hz2))
  clear hb3 hk2 hz2 hB2
  obtain ⟨c30, c31, c32, c33, c34⟩ := hk3.c5
  go_wp2_with fail
  refine wp_loop_rounds 5 ?_
  rw [rounds_succ]
  go_wp2_with fail
  refine (with_yes (f * 256) 0 1 1 _ (by omega) (by omega) ⟨by omega, by omega, by omega, by omega, by omega⟩ (by omega) (by decide)).mono ?_
  rintro e W4 ⟨rfl, hb4⟩
  rw [show putV (f * 256) 0 1 1 = 1 + f * 256 from by simp [putV]; omega]
  have hk4 := hk3.below hb4 hz3
  have hz4 := Nat.lt_of_lt_of_le hz3 hb4.size
  have hB4 := hB3.trans (hb4.mono (Nat.le_of_lt hz3))
  clear hb4 hk3 hz3 hB3
  obtain ⟨c40, c41, c42, c43, c44⟩ := hk4.c5
  go_wp2_with fail
  rw [rounds_succ]
  go_wp2_with fail
  refine (with_yes (1 + f * 256) 1 1 1 _ (by omega) (by omega) ⟨by omega, by omega, by omega, by omega, by omega⟩ (by omega) (by decide)).mono ?_
  rintro e W5 ⟨rfl, hb5⟩
  rw [show putV (1 + f * 256) 1 1 1 = 3 + f * 256 from by simp [putV]; omega]
  have hk5 := hk4.below hb5 hz4
  have hz5 := Nat.lt_of_lt_of_le hz4 hb5.size
  have hB5 := hB4.trans (hb5.mono (Nat.le_of_lt hz4))
  clear hb5 hk4 hz4 hB4
  obtain ⟨c50, c51, c52, c53, c54⟩ := hk5.c5
  go_wp2_with fail
  rw [rounds_succ]
  go_wp2_with fail
  refine (with_yes (3 + f * 256) 2 1 1 _ (by omega) (by omega) ⟨by omega, by omega, by omega, by omega, by omega⟩ (by omega) (by decide)).mono ?_
  rintro e W6 ⟨rfl, hb6⟩
  rw [show putV (3 + f * 256) 2 1 1 = 7 + f * 256 from by simp [putV]; omega]
  have hk6 := hk5.below hb6 hz5
  have hz6 := Nat.lt_of_lt_of_le hz5 hb6.size
  have hB6 := hB5.trans (hb6.mono (Nat.le_of_lt hz5))
  clear hb6 hk5 hz5 hB5
  obtain ⟨c60, c61, c62, c63, c64⟩ := hk6.c5
  go_wp2_with fail
  rw [rounds_succ]
  go_wp2_with fail
  rw [rounds_succ]
  go_wp2_with fail
  go_ret2
  exact ⟨rfl, by rw [HG.out]; exact hB6⟩
set_option maxHeartbeats 1000000 in
theorem enc_11 (f : Int) (h0 : 0 ≤ f) (h1 : f < 64) (w : World) :
    Calls Try.prog 11 #[.agg #[.bool true, .bool true, .bool true, .bool true, .int .i64 f]] w fun e w' => e = .returned (.tuple #[.int .u64 (15 + f * 256), .int .i64 0]) ∧ Below w.heap.size w w' := by
  have hm : mayB true true true true f = true := by simp [mayB, h0, h1]
  have H := hide hm
  clear hm
  have i0 : ∀ g w, (Instr.index 62 (.agg #[.pointer (some ⟨g, 0, none⟩), .pointer (some ⟨g, 1, none⟩), .pointer (some ⟨g, 2, none⟩), .pointer (some ⟨g, 3, none⟩)]) (.int .i64 0)).run Try.prog w = .ok (.pointer (some ⟨g, 0, none⟩)) w := fun _ _ => by kernel_rfl
  have i1 : ∀ g w, (Instr.index 62 (.agg #[.pointer (some ⟨g, 0, none⟩), .pointer (some ⟨g, 1, none⟩), .pointer (some ⟨g, 2, none⟩), .pointer (some ⟨g, 3, none⟩)]) (.int .i64 1)).run Try.prog w = .ok (.pointer (some ⟨g, 1, none⟩)) w := fun _ _ => by kernel_rfl
  have i2 : ∀ g w, (Instr.index 62 (.agg #[.pointer (some ⟨g, 0, none⟩), .pointer (some ⟨g, 1, none⟩), .pointer (some ⟨g, 2, none⟩), .pointer (some ⟨g, 3, none⟩)]) (.int .i64 2)).run Try.prog w = .ok (.pointer (some ⟨g, 2, none⟩)) w := fun _ _ => by kernel_rfl
  have i3 : ∀ g w, (Instr.index 62 (.agg #[.pointer (some ⟨g, 0, none⟩), .pointer (some ⟨g, 1, none⟩), .pointer (some ⟨g, 2, none⟩), .pointer (some ⟨g, 3, none⟩)]) (.int .i64 3)).run Try.prog w = .ok (.pointer (some ⟨g, 3, none⟩)) w := fun _ _ => by kernel_rfl
  go_enter Try.func11, Try.ntmps11
  go_wp2_with fail
  have hk0 := Blk.new w 23 #[.bool true, .bool true, .bool true, .bool true, .int .i64 f]
  have hB0 := (Below.refl w.heap.size w).alloc (Nat.le_refl _) (.cells #[.bool true, .bool true, .bool true, .bool true, .int .i64 f] 23)
  have hz0 : w.heap.size < (w.alloc (.cells #[.bool true, .bool true, .bool true, .bool true, .int .i64 f] 23)).heap.size := by simp
  generalize w.alloc (.cells #[.bool true, .bool true, .bool true, .bool true, .int .i64 f] 23) = W0 at hk0 hB0 hz0 ⊢
  obtain ⟨g, hg⟩ : ∃ g, w.heap.size = g := ⟨_, rfl⟩
  rw [hg] at hk0 hB0 hz0 ⊢
  have HG := hide hg
  clear hg
  obtain ⟨c00, c01, c02, c03, c04⟩ := hk0.c5
  go_wp2_with fail
  refine (pmay_any _ _ _ _ _ _).mono ?_
  rintro e W1 ⟨rfl, hb1⟩
  rw [H.out]
  have hk1 := hk0.below hb1 hz0
  have hz1 := Nat.lt_of_lt_of_le hz0 hb1.size
  have hB1 := hB0.trans (hb1.mono (Nat.le_of_lt hz0))
  clear hb1 hk0 hz0 hB0
  obtain ⟨c10, c11, c12, c13, c14⟩ := hk1.c5
  go_wp2_with fail
  refine (with_yes 0 8 6 f _ (by omega) (by omega) ⟨by omega, by omega, by omega, by omega, by omega⟩ (by omega) (by simp; omega)).mono ?_
  rintro e W2 ⟨rfl, hb2⟩
  rw [show putV 0 8 6 f = f * 256 from by simp [putV]]
  have hk2 := hk1.below hb2 hz1
  have hz2 := Nat.lt_of_lt_of_le hz1 hb2.size
  have hB2 := hB1.trans (hb2.mono (Nat.le_of_lt hz1))
  clear hb2 hk1 hz1 hB1
  obtain ⟨c20, c21, c22, c23, c24⟩ := hk2.c5
  go_wp2_with fail
  refine (flags_any g _).mono ?_
  rintro e W3 ⟨rfl, hb3⟩
  have hk3 := hk2.below hb3 hz2
  have hz3 := Nat.lt_of_lt_of_le hz2 hb3.size
  have hB3 := hB2.trans (hb3.mono (Nat.le_of_lt hz2))
  clear hb3 hk2 hz2 hB2
  obtain ⟨c30, c31, c32, c33, c34⟩ := hk3.c5
  go_wp2_with fail
  refine wp_loop_rounds 5 ?_
  rw [rounds_succ]
  go_wp2_with fail
  refine (with_yes (f * 256) 0 1 1 _ (by omega) (by omega) ⟨by omega, by omega, by omega, by omega, by omega⟩ (by omega) (by decide)).mono ?_
  rintro e W4 ⟨rfl, hb4⟩
  rw [show putV (f * 256) 0 1 1 = 1 + f * 256 from by simp [putV]; omega]
  have hk4 := hk3.below hb4 hz3
  have hz4 := Nat.lt_of_lt_of_le hz3 hb4.size
  have hB4 := hB3.trans (hb4.mono (Nat.le_of_lt hz3))
  clear hb4 hk3 hz3 hB3
  obtain ⟨c40, c41, c42, c43, c44⟩ := hk4.c5
  go_wp2_with fail
  rw [rounds_succ]
  go_wp2_with fail
  refine (with_yes (1 + f * 256) 1 1 1 _ (by omega) (by omega) ⟨by omega, by omega, by omega, by omega, by omega⟩ (by omega) (by decide)).mono ?_
  rintro e W5 ⟨rfl, hb5⟩
  rw [show putV (1 + f * 256) 1 1 1 = 3 + f * 256 from by simp [putV]; omega]
  have hk5 := hk4.below hb5 hz4
  have hz5 := Nat.lt_of_lt_of_le hz4 hb5.size
  have hB5 := hB4.trans (hb5.mono (Nat.le_of_lt hz4))
  clear hb5 hk4 hz4 hB4
  obtain ⟨c50, c51, c52, c53, c54⟩ := hk5.c5
  go_wp2_with fail
  rw [rounds_succ]
  go_wp2_with fail
  refine (with_yes (3 + f * 256) 2 1 1 _ (by omega) (by omega) ⟨by omega, by omega, by omega, by omega, by omega⟩ (by omega) (by decide)).mono ?_
  rintro e W6 ⟨rfl, hb6⟩
  rw [show putV (3 + f * 256) 2 1 1 = 7 + f * 256 from by simp [putV]; omega]
  have hk6 := hk5.below hb6 hz5
  have hz6 := Nat.lt_of_lt_of_le hz5 hb6.size
  have hB6 := hB5.trans (hb6.mono (Nat.le_of_lt hz5))
  clear hb6 hk5 hz5 hB5
  obtain ⟨c60, c61, c62, c63, c64⟩ := hk6.c5
  go_wp2_with fail
  rw [rounds_succ]
  go_wp2_with fail
  refine (with_yes (7 + f * 256) 3 1 1 _ (by omega) (by omega) ⟨by omega, by omega, by omega, by omega, by omega⟩ (by omega) (by decide)).mono ?_
  rintro e W7 ⟨rfl, hb7⟩
  rw [show putV (7 + f * 256) 3 1 1 = 15 + f * 256 from by simp [putV]; omega]
  have hk7 := hk6.below hb7 hz6
  have hz7 := Nat.lt_of_lt_of_le hz6 hb7.size
  have hB7 := hB6.trans (hb7.mono (Nat.le_of_lt hz6))
  clear hb7 hk6 hz6 hB6
  obtain ⟨c70, c71, c72, c73, c74⟩ := hk7.c5
  go_wp2_with fail
  rw [rounds_succ]
  go_wp2_with fail
  go_ret2
  exact ⟨rfl, by rw [HG.out]; exact hB7⟩
theorem enc_yes (v l r s : Bool) (f : Int) (w : World) (h : mayB v l r s f = true) :
    Calls Try.prog 11 #[.agg #[.bool v, .bool l, .bool r, .bool s, .int .i64 f]] w fun e w' => e = .returned (.tuple #[.int .u64 (entV v l r s f), .int .i64 0]) ∧ Below w.heap.size w w' := by
  cases v
  · have h2 : l = false ∧ r = false ∧ s = false ∧ f = 0 := by simpa [mayB, and_assoc] using h
    obtain ⟨rfl, rfl, rfl, rfl⟩ := h2
    exact enc_zero w
  · have h2 : (0 ≤ f ∧ f < 64) ∧ l = (r || s) := by simpa [mayB] using h
    obtain ⟨⟨h0, h1⟩, rfl⟩ := h2
    cases r <;> cases s
    · exact enc_00 f h0 h1 w
    · exact enc_01 f h0 h1 w
    · exact enc_10 f h0 h1 w
    · exact enc_11 f h0 h1 w
/-- What Encode answers. -/
def encV (v l r s : Bool) (f : Int) : Int := if mayB v l r s f then entV v l r s f else 0
def encE (v l r s : Bool) (f : Int) : Int := if mayB v l r s f then 0 else 5
theorem enc_any (v l r s : Bool) (f : Int) (w : World) :
    Calls Try.prog 11 #[.agg #[.bool v, .bool l, .bool r, .bool s, .int .i64 f]] w fun e w' => e = .returned (.tuple #[.int .u64 (encV v l r s f), .int .i64 (encE v l r s f)]) ∧ Below w.heap.size w w' := by
  unfold encV encE
  cases h : mayB v l r s f with
  | true => exact enc_yes v l r s f w h
  | false => exact enc_no v l r s f w h
end Go.Proofs.Ytpapabkafkgagaa
