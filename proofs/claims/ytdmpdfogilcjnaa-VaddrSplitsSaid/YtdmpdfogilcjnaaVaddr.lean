/- The walks of package vaddr, of its reference, and of the statements of chapter 4. -/
import Derived.Test.YtdmpdfogilcjnaaWord
namespace Go.Proofs.Ytdmpdfogilcjnaa
open Go.RowKit

theorem mayF {a n : Int} (h1 : 0 ≤ a) (h2 : a ≤ 63) (h3 : 1 ≤ n) (h4 : n ≤ 64) (h5 : a + n ≤ 64) : MayF a n := ⟨h1, h2, h3, h4, h5⟩

/-! vaddr.Split -/
def splitA (x : Int) : Value := .agg #[.int .i64 (x / 4096), .int .i64 (x / 512 % 8), .int .i64 (x / 64 % 8), .int .i64 (x % 64)]
theorem fld12 (x : Int) : fldV x 12 3 = x / 4096 % 8 := rfl
theorem fld9 (x : Int) : fldV x 9 3 = x / 512 % 8 := rfl
theorem fld6 (x : Int) : fldV x 6 3 = x / 64 % 8 := rfl
theorem fld0 (x : Int) : fldV x 0 6 = x % 64 := by simp [fldV]
set_option maxHeartbeats 400000 in
theorem split_yes (x : Int) (w : World) (h : 0 ≤ x) (h2 : x < 32768) :
    Calls Try.prog 15 #[.int .u64 x] w fun e w' => e = .returned (.tuple #[splitA x, .int .i64 0]) ∧ Below w.heap.size w w' := by
  have h64 : x < 18446744073709551616 := by omega
  go_enter Try.func15, Try.ntmps15
  go_wp2_with fail
  refine wp_loop_rounds 4 ?_
  rw [rounds_succ]
  go_wp2_with fail
  refine (field_yes x 12 3 _ h h64 (mayF (by omega) (by omega) (by omega) (by omega) (by omega))).mono ?_
  rintro e w' ⟨rfl, rfl⟩
  rw [fld12]
  go_wp2_with fail
  rw [rounds_succ]
  go_wp2_with fail
  refine (field_yes x 9 3 _ h h64 (mayF (by omega) (by omega) (by omega) (by omega) (by omega))).mono ?_
  rintro e w' ⟨rfl, rfl⟩
  rw [fld9]
  go_wp2_with fail
  rw [rounds_succ]
  go_wp2_with fail
  refine (field_yes x 6 3 _ h h64 (mayF (by omega) (by omega) (by omega) (by omega) (by omega))).mono ?_
  rintro e w' ⟨rfl, rfl⟩
  rw [fld6]
  go_wp2_with fail
  rw [rounds_succ]
  go_wp2_with fail
  refine (field_yes x 0 6 _ h h64 (mayF (by omega) (by omega) (by omega) (by omega) (by omega))).mono ?_
  rintro e w' ⟨rfl, rfl⟩
  rw [fld0]
  go_wp2_with fail
  go_returns
  refine ⟨?_, by go_grown⟩
  unfold splitA
  rw [show x / 4096 % 8 = x / 4096 by omega]
theorem split_no (x : Int) (w : World) (h : 32768 ≤ x) :
    Calls Try.prog 15 #[.int .u64 x] w fun e w' => e = .returned (.tuple #[.agg #[.int .i64 0, .int .i64 0, .int .i64 0, .int .i64 0], .int .i64 3]) ∧ Below w.heap.size w w' := by
  go_enter Try.func15, Try.ntmps15
  go_wp2_with fail
  go_returns
  exact ⟨rfl, by go_grown⟩
theorem rsplit_yes (x : Int) (w : World) (h : 0 ≤ x) (h2 : x < 32768) :
    Calls Try.prog 16 #[.int .u64 x] w fun e w' => e = .returned (.tuple #[splitA x, .int .i64 0]) ∧ Below w.heap.size w w' := by
  go_enter Try.func16, Try.ntmps16
  go_wp2_with fail
  go_returns
  exact ⟨rfl, by go_grown⟩
theorem rsplit_no (x : Int) (w : World) (h : 32768 ≤ x) :
    Calls Try.prog 16 #[.int .u64 x] w fun e w' => e = .returned (.tuple #[.agg #[.int .i64 0, .int .i64 0, .int .i64 0, .int .i64 0], .int .i64 3]) ∧ Below w.heap.size w w' := by
  go_enter Try.func16, Try.ntmps16
  go_wp2_with fail
  go_returns
  exact ⟨rfl, by go_grown⟩
theorem page_yes (x : Int) (w : World) (h : 0 ≤ x) (h2 : x < 32768) :
    Calls Try.prog 17 #[.int .u64 x] w fun e w' => e = .returned (.tuple #[.int .i64 (x / 64), .int .i64 0]) ∧ w = w' := by
  go_enter Try.func17, Try.ntmps17
  go_wp2_with fail
  go_ret2
  exact ⟨rfl, rfl⟩
theorem page_no (x : Int) (w : World) (h : 32768 ≤ x) :
    Calls Try.prog 17 #[.int .u64 x] w fun e w' => e = .returned (.tuple #[.int .i64 0, .int .i64 3]) ∧ w = w' := by
  go_enter Try.func17, Try.ntmps17
  go_wp2_with fail
  go_ret2
  exact ⟨rfl, rfl⟩
theorem rpage_yes (x : Int) (w : World) (h : 0 ≤ x) (h2 : x < 32768) :
    Calls Try.prog 18 #[.int .u64 x] w fun e w' => e = .returned (.tuple #[.int .i64 (x / 64), .int .i64 0]) ∧ w = w' := by
  go_enter Try.func18, Try.ntmps18
  go_wp2_with fail
  go_ret2
  exact ⟨rfl, rfl⟩
theorem rpage_no (x : Int) (w : World) (h : 32768 ≤ x) :
    Calls Try.prog 18 #[.int .u64 x] w fun e w' => e = .returned (.tuple #[.int .i64 0, .int .i64 3]) ∧ w = w' := by
  go_enter Try.func18, Try.ntmps18
  go_wp2_with fail
  go_ret2
  exact ⟨rfl, rfl⟩
theorem num_any (x : Int) (w : World) :
    Calls Try.prog 19 #[.int .i64 x] w fun e w' => e = .returned (.int .i64 x) ∧ w = w' := by
  go_enter Try.func19, Try.ntmps19
  go_wp2_with fail
  go_ret
  exact ⟨rfl, rfl⟩
theorem awake4 (w : World) :
    Calls Try.prog 20 #[] w fun e w' => e = .returned (.bool true) ∧ Below w.heap.size w w' := by
  have e : splitA 32767 = .agg #[.int .i64 7, .int .i64 7, .int .i64 7, .int .i64 63] := rfl
  go_enter Try.func20, Try.ntmps20
  go_wp2_with fail
  refine (split_yes 32767 _ (by omega) (by omega)).mono ?_
  rintro e w1 ⟨rfl, hb1⟩
  rw [e]
  go_wp2_with fail
  refine (page_yes 32767 _ (by omega) (by omega)).mono ?_
  rintro e w' ⟨rfl, rfl⟩
  go_wp2_with fail
  go_ret
  exact ⟨rfl, hb1.alloc hb1.size _⟩
theorem law_VaddrSplits (x : Int) (hx : (Lit.int .u64 x).wf = true) (w : World) :
    Calls Try.prog 3 #[.int .u64 x] w fun e w' => e = .returned (.bool true) ∧ Below w.heap.size w w' := by
  obtain ⟨h0, h64⟩ := wfu hx
  clear hx
  by_cases h : x < 32768
  · go_enter Try.func3, Try.ntmps3
    go_wp2_with fail
    refine (split_yes x _ h0 h).mono ?_
    rintro e w1 ⟨rfl, hb1⟩
    unfold splitA
    go_wp2_with fail
    refine (rsplit_yes x _ h0 h).mono ?_
    rintro e w2 ⟨rfl, hb2⟩
    unfold splitA
    obtain ⟨hz2, hk2⟩ := blk_after hb2
    obtain ⟨c0, c1, c2, c3⟩ := hk2.c4
    have hB2 : Below w.heap.size w w2 := (hb1.alloc hb1.size _).trans (hb2.mono (by have := hb1.size; simp; omega))
    clear hb2 hk2
    go_wp2_with fail
    refine (page_yes x _ h0 h).mono ?_
    rintro e w' ⟨rfl, rfl⟩
    go_wp2_with fail
    refine (rpage_yes x _ h0 h).mono ?_
    rintro e w' ⟨rfl, rfl⟩
    go_wp2_with (first | (go_at_call 19; refine (num_any _ _).mono ?_; rintro e w' ⟨rfl, rfl⟩) | (go_at_call 20; refine (awake4 _).mono ?_; rintro e w3 ⟨rfl, hb3⟩))
    go_ret
    exact ⟨rfl, (hB2.alloc hB2.size _).trans (hb3.mono (by have := hB2.size; simp; omega))⟩
  · have h' : 32768 ≤ x := by omega
    clear h
    go_enter Try.func3, Try.ntmps3
    go_wp2_with fail
    refine (split_no x _ h').mono ?_
    rintro e w1 ⟨rfl, hb1⟩
    go_wp2_with fail
    refine (rsplit_no x _ h').mono ?_
    rintro e w2 ⟨rfl, hb2⟩
    obtain ⟨hz2, hk2⟩ := blk_after hb2
    obtain ⟨c0, c1, c2, c3⟩ := hk2.c4
    have hB2 : Below w.heap.size w w2 := (hb1.alloc hb1.size _).trans (hb2.mono (by have := hb1.size; simp; omega))
    clear hb2 hk2
    go_wp2_with fail
    refine (page_no x _ h').mono ?_
    rintro e w' ⟨rfl, rfl⟩
    go_wp2_with fail
    refine (rpage_no x _ h').mono ?_
    rintro e w' ⟨rfl, rfl⟩
    go_wp2_with (first | (go_at_call 19; refine (num_any _ _).mono ?_; rintro e w' ⟨rfl, rfl⟩) | (go_at_call 20; refine (awake4 _).mono ?_; rintro e w3 ⟨rfl, hb3⟩))
    go_ret
    exact ⟨rfl, (hB2.alloc hB2.size _).trans (hb3.mono (by have := hB2.size; simp; omega))⟩
end Go.Proofs.Ytdmpdfogilcjnaa
