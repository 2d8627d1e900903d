/- The walks of the reference of chapter 9: Text, Parse; and Parse of package rights at no right's text. -/
import Derived.Test.YtdmpdfogilcjnaaRights
namespace Go.Proofs.Ytdmpdfogilcjnaa
open Go.RowKit

theorem rtext_0 (w : World) : Calls Try.prog 44 #[.int .i64 0] w fun e w' => e = .returned (.string ⟨#[45, 45, 45]⟩) ∧ w = w' := by
  go_enter Try.func44, Try.ntmps44
  go_wp2
  refine wp_loop_rounds 4 ?_
  rw [rounds_succ]
  go_wp2
  rw [rounds_succ]
  go_wp2
  rw [rounds_succ]
  go_wp2
  rw [rounds_succ]
  go_wp2
  go_ret
  exact ⟨by kernel_rfl, rfl⟩
theorem rtext_1 (w : World) : Calls Try.prog 44 #[.int .i64 1] w fun e w' => e = .returned (.string ⟨#[114, 45, 45]⟩) ∧ w = w' := by
  go_enter Try.func44, Try.ntmps44
  go_wp2
  refine wp_loop_rounds 4 ?_
  rw [rounds_succ]
  go_wp2
  rw [rounds_succ]
  go_wp2
  rw [rounds_succ]
  go_wp2
  rw [rounds_succ]
  go_wp2
  go_ret
  exact ⟨by kernel_rfl, rfl⟩
theorem rtext_2 (w : World) : Calls Try.prog 44 #[.int .i64 2] w fun e w' => e = .returned (.string ⟨#[45, 119, 45]⟩) ∧ w = w' := by
  go_enter Try.func44, Try.ntmps44
  go_wp2
  refine wp_loop_rounds 4 ?_
  rw [rounds_succ]
  go_wp2
  rw [rounds_succ]
  go_wp2
  rw [rounds_succ]
  go_wp2
  rw [rounds_succ]
  go_wp2
  go_ret
  exact ⟨by kernel_rfl, rfl⟩
theorem rtext_3 (w : World) : Calls Try.prog 44 #[.int .i64 3] w fun e w' => e = .returned (.string ⟨#[114, 119, 45]⟩) ∧ w = w' := by
  go_enter Try.func44, Try.ntmps44
  go_wp2
  refine wp_loop_rounds 4 ?_
  rw [rounds_succ]
  go_wp2
  rw [rounds_succ]
  go_wp2
  rw [rounds_succ]
  go_wp2
  rw [rounds_succ]
  go_wp2
  go_ret
  exact ⟨by kernel_rfl, rfl⟩
theorem rtext_4 (w : World) : Calls Try.prog 44 #[.int .i64 4] w fun e w' => e = .returned (.string ⟨#[45, 45, 103]⟩) ∧ w = w' := by
  go_enter Try.func44, Try.ntmps44
  go_wp2
  refine wp_loop_rounds 4 ?_
  rw [rounds_succ]
  go_wp2
  rw [rounds_succ]
  go_wp2
  rw [rounds_succ]
  go_wp2
  rw [rounds_succ]
  go_wp2
  go_ret
  exact ⟨by kernel_rfl, rfl⟩
theorem rtext_5 (w : World) : Calls Try.prog 44 #[.int .i64 5] w fun e w' => e = .returned (.string ⟨#[114, 45, 103]⟩) ∧ w = w' := by
  go_enter Try.func44, Try.ntmps44
  go_wp2
  refine wp_loop_rounds 4 ?_
  rw [rounds_succ]
  go_wp2
  rw [rounds_succ]
  go_wp2
  rw [rounds_succ]
  go_wp2
  rw [rounds_succ]
  go_wp2
  go_ret
  exact ⟨by kernel_rfl, rfl⟩
theorem rtext_6 (w : World) : Calls Try.prog 44 #[.int .i64 6] w fun e w' => e = .returned (.string ⟨#[45, 119, 103]⟩) ∧ w = w' := by
  go_enter Try.func44, Try.ntmps44
  go_wp2
  refine wp_loop_rounds 4 ?_
  rw [rounds_succ]
  go_wp2
  rw [rounds_succ]
  go_wp2
  rw [rounds_succ]
  go_wp2
  rw [rounds_succ]
  go_wp2
  go_ret
  exact ⟨by kernel_rfl, rfl⟩
theorem rtext_7 (w : World) : Calls Try.prog 44 #[.int .i64 7] w fun e w' => e = .returned (.string ⟨#[114, 119, 103]⟩) ∧ w = w' := by
  go_enter Try.func44, Try.ntmps44
  go_wp2
  refine wp_loop_rounds 4 ?_
  rw [rounds_succ]
  go_wp2
  rw [rounds_succ]
  go_wp2
  rw [rounds_succ]
  go_wp2
  rw [rounds_succ]
  go_wp2
  go_ret
  exact ⟨by kernel_rfl, rfl⟩
set_option maxHeartbeats 1000000 in
theorem rparse_0 (w : World) : Calls Try.prog 23 #[.string ⟨#[45, 45, 45]⟩] w fun e w' => e = .returned (.tuple #[.int .i64 0, .int .i64 0]) ∧ w = w' := by
  go_enter Try.func23, Try.ntmps23
  go_wp2_with fail
  refine wp_loop_rounds 9 ?_
  rw [rounds_succ]
  go_wp2_with fail
  refine (rtext_0 _).mono ?_
  rintro e w' ⟨rfl, rfl⟩
  go_wp2_with fail
  go_ret2
  exact ⟨rfl, rfl⟩
set_option maxHeartbeats 1000000 in
theorem rparse_1 (w : World) : Calls Try.prog 23 #[.string ⟨#[114, 45, 45]⟩] w fun e w' => e = .returned (.tuple #[.int .i64 1, .int .i64 0]) ∧ w = w' := by
  go_enter Try.func23, Try.ntmps23
  go_wp2_with fail
  refine wp_loop_rounds 9 ?_
  rw [rounds_succ]
  go_wp2_with fail
  refine (rtext_0 _).mono ?_
  rintro e w' ⟨rfl, rfl⟩
  go_wp2_with fail
  rw [rounds_succ]
  go_wp2_with fail
  refine (rtext_1 _).mono ?_
  rintro e w' ⟨rfl, rfl⟩
  go_wp2_with fail
  go_ret2
  exact ⟨rfl, rfl⟩
set_option maxHeartbeats 1000000 in
theorem rparse_2 (w : World) : Calls Try.prog 23 #[.string ⟨#[45, 119, 45]⟩] w fun e w' => e = .returned (.tuple #[.int .i64 2, .int .i64 0]) ∧ w = w' := by
  go_enter Try.func23, Try.ntmps23
  go_wp2_with fail
  refine wp_loop_rounds 9 ?_
  rw [rounds_succ]
  go_wp2_with fail
  refine (rtext_0 _).mono ?_
  rintro e w' ⟨rfl, rfl⟩
  go_wp2_with fail
  rw [rounds_succ]
  go_wp2_with fail
  refine (rtext_1 _).mono ?_
  rintro e w' ⟨rfl, rfl⟩
  go_wp2_with fail
  rw [rounds_succ]
  go_wp2_with fail
  refine (rtext_2 _).mono ?_
  rintro e w' ⟨rfl, rfl⟩
  go_wp2_with fail
  go_ret2
  exact ⟨rfl, rfl⟩
set_option maxHeartbeats 1000000 in
theorem rparse_3 (w : World) : Calls Try.prog 23 #[.string ⟨#[114, 119, 45]⟩] w fun e w' => e = .returned (.tuple #[.int .i64 3, .int .i64 0]) ∧ w = w' := by
  go_enter Try.func23, Try.ntmps23
  go_wp2_with fail
  refine wp_loop_rounds 9 ?_
  rw [rounds_succ]
  go_wp2_with fail
  refine (rtext_0 _).mono ?_
  rintro e w' ⟨rfl, rfl⟩
  go_wp2_with fail
  rw [rounds_succ]
  go_wp2_with fail
  refine (rtext_1 _).mono ?_
  rintro e w' ⟨rfl, rfl⟩
  go_wp2_with fail
  rw [rounds_succ]
  go_wp2_with fail
  refine (rtext_2 _).mono ?_
  rintro e w' ⟨rfl, rfl⟩
  go_wp2_with fail
  rw [rounds_succ]
  go_wp2_with fail
  refine (rtext_3 _).mono ?_
  rintro e w' ⟨rfl, rfl⟩
  go_wp2_with fail
  go_ret2
  exact ⟨rfl, rfl⟩
set_option maxHeartbeats 1000000 in
theorem rparse_4 (w : World) : Calls Try.prog 23 #[.string ⟨#[45, 45, 103]⟩] w fun e w' => e = .returned (.tuple #[.int .i64 4, .int .i64 0]) ∧ w = w' := by
  go_enter Try.func23, Try.ntmps23
  go_wp2_with fail
  refine wp_loop_rounds 9 ?_
  rw [rounds_succ]
  go_wp2_with fail
  refine (rtext_0 _).mono ?_
  rintro e w' ⟨rfl, rfl⟩
  go_wp2_with fail
  rw [rounds_succ]
  go_wp2_with fail
  refine (rtext_1 _).mono ?_
  rintro e w' ⟨rfl, rfl⟩
  go_wp2_with fail
  rw [rounds_succ]
  go_wp2_with fail
  refine (rtext_2 _).mono ?_
  rintro e w' ⟨rfl, rfl⟩
  go_wp2_with fail
  rw [rounds_succ]
  go_wp2_with fail
  refine (rtext_3 _).mono ?_
  rintro e w' ⟨rfl, rfl⟩
  go_wp2_with fail
  rw [rounds_succ]
  go_wp2_with fail
  refine (rtext_4 _).mono ?_
  rintro e w' ⟨rfl, rfl⟩
  go_wp2_with fail
  go_ret2
  exact ⟨rfl, rfl⟩
set_option maxHeartbeats 1000000 in
theorem rparse_5 (w : World) : Calls Try.prog 23 #[.string ⟨#[114, 45, 103]⟩] w fun e w' => e = .returned (.tuple #[.int .i64 5, .int .i64 0]) ∧ w = w' := by
  go_enter Try.func23, Try.ntmps23
  go_wp2_with fail
  refine wp_loop_rounds 9 ?_
  rw [rounds_succ]
  go_wp2_with fail
  refine (rtext_0 _).mono ?_
  rintro e w' ⟨rfl, rfl⟩
  go_wp2_with fail
  rw [rounds_succ]
  go_wp2_with fail
  refine (rtext_1 _).mono ?_
  rintro e w' ⟨rfl, rfl⟩
  go_wp2_with fail
  rw [rounds_succ]
  go_wp2_with fail
  refine (rtext_2 _).mono ?_
  rintro e w' ⟨rfl, rfl⟩
  go_wp2_with fail
  rw [rounds_succ]
  go_wp2_with fail
  refine (rtext_3 _).mono ?_
  rintro e w' ⟨rfl, rfl⟩
  go_wp2_with fail
  rw [rounds_succ]
  go_wp2_with fail
  refine (rtext_4 _).mono ?_
  rintro e w' ⟨rfl, rfl⟩
  go_wp2_with fail
  rw [rounds_succ]
  go_wp2_with fail
  refine (rtext_5 _).mono ?_
  rintro e w' ⟨rfl, rfl⟩
  go_wp2_with fail
  go_ret2
  exact ⟨rfl, rfl⟩
set_option maxHeartbeats 1000000 in
theorem rparse_6 (w : World) : Calls Try.prog 23 #[.string ⟨#[45, 119, 103]⟩] w fun e w' => e = .returned (.tuple #[.int .i64 6, .int .i64 0]) ∧ w = w' := by
  go_enter Try.func23, Try.ntmps23
  go_wp2_with fail
  refine wp_loop_rounds 9 ?_
  rw [rounds_succ]
  go_wp2_with fail
  refine (rtext_0 _).mono ?_
  rintro e w' ⟨rfl, rfl⟩
  go_wp2_with fail
  rw [rounds_succ]
  go_wp2_with fail
  refine (rtext_1 _).mono ?_
  rintro e w' ⟨rfl, rfl⟩
  go_wp2_with fail
  rw [rounds_succ]
  go_wp2_with fail
  refine (rtext_2 _).mono ?_
  rintro e w' ⟨rfl, rfl⟩
  go_wp2_with fail
  rw [rounds_succ]
  go_wp2_with fail
  refine (rtext_3 _).mono ?_
  rintro e w' ⟨rfl, rfl⟩
  go_wp2_with fail
  rw [rounds_succ]
  go_wp2_with fail
  refine (rtext_4 _).mono ?_
  rintro e w' ⟨rfl, rfl⟩
  go_wp2_with fail
  rw [rounds_succ]
  go_wp2_with fail
  refine (rtext_5 _).mono ?_
  rintro e w' ⟨rfl, rfl⟩
  go_wp2_with fail
  rw [rounds_succ]
  go_wp2_with fail
  refine (rtext_6 _).mono ?_
  rintro e w' ⟨rfl, rfl⟩
  go_wp2_with fail
  go_ret2
  exact ⟨rfl, rfl⟩
set_option maxHeartbeats 1000000 in
theorem rparse_7 (w : World) : Calls Try.prog 23 #[.string ⟨#[114, 119, 103]⟩] w fun e w' => e = .returned (.tuple #[.int .i64 7, .int .i64 0]) ∧ w = w' := by
  go_enter Try.func23, Try.ntmps23
  go_wp2_with fail
  refine wp_loop_rounds 9 ?_
  rw [rounds_succ]
  go_wp2_with fail
  refine (rtext_0 _).mono ?_
  rintro e w' ⟨rfl, rfl⟩
  go_wp2_with fail
  rw [rounds_succ]
  go_wp2_with fail
  refine (rtext_1 _).mono ?_
  rintro e w' ⟨rfl, rfl⟩
  go_wp2_with fail
  rw [rounds_succ]
  go_wp2_with fail
  refine (rtext_2 _).mono ?_
  rintro e w' ⟨rfl, rfl⟩
  go_wp2_with fail
  rw [rounds_succ]
  go_wp2_with fail
  refine (rtext_3 _).mono ?_
  rintro e w' ⟨rfl, rfl⟩
  go_wp2_with fail
  rw [rounds_succ]
  go_wp2_with fail
  refine (rtext_4 _).mono ?_
  rintro e w' ⟨rfl, rfl⟩
  go_wp2_with fail
  rw [rounds_succ]
  go_wp2_with fail
  refine (rtext_5 _).mono ?_
  rintro e w' ⟨rfl, rfl⟩
  go_wp2_with fail
  rw [rounds_succ]
  go_wp2_with fail
  refine (rtext_6 _).mono ?_
  rintro e w' ⟨rfl, rfl⟩
  go_wp2_with fail
  rw [rounds_succ]
  go_wp2_with fail
  refine (rtext_7 _).mono ?_
  rintro e w' ⟨rfl, rfl⟩
  go_wp2_with fail
  go_ret2
  exact ⟨rfl, rfl⟩
/-- Not one of the eight texts. -/
def noText (s : ByteArray) : Prop := ∀ t ∈ ([[45, 45, 45], [114, 45, 45], [45, 119, 45], [114, 119, 45], [45, 45, 103], [114, 45, 103], [45, 119, 103], [114, 119, 103]] : List (List UInt8)), (t == s.toList) = false
set_option maxHeartbeats 1000000 in
theorem rparse_none (s : ByteArray) (h : noText s) (w : World) : Calls Try.prog 23 #[.string s] w fun e w' => e = .returned (.tuple #[.int .i64 0, .int .i64 5]) ∧ w = w' := by
  have h0 : ([45, 45, 45] == s.toList) = false := h [45, 45, 45] (by simp)
  have h1 : ([114, 45, 45] == s.toList) = false := h [114, 45, 45] (by simp)
  have h2 : ([45, 119, 45] == s.toList) = false := h [45, 119, 45] (by simp)
  have h3 : ([114, 119, 45] == s.toList) = false := h [114, 119, 45] (by simp)
  have h4 : ([45, 45, 103] == s.toList) = false := h [45, 45, 103] (by simp)
  have h5 : ([114, 45, 103] == s.toList) = false := h [114, 45, 103] (by simp)
  have h6 : ([45, 119, 103] == s.toList) = false := h [45, 119, 103] (by simp)
  have h7 : ([114, 119, 103] == s.toList) = false := h [114, 119, 103] (by simp)
  clear h
  go_enter Try.func23, Try.ntmps23
  go_wp2_with fail
  refine wp_loop_rounds 9 ?_
  rw [rounds_succ]
  go_wp2_with fail
  refine (rtext_0 _).mono ?_
  rintro e w' ⟨rfl, rfl⟩
  go_wp2_with fail
  rw [rounds_succ]
  go_wp2_with fail
  refine (rtext_1 _).mono ?_
  rintro e w' ⟨rfl, rfl⟩
  go_wp2_with fail
  rw [rounds_succ]
  go_wp2_with fail
  refine (rtext_2 _).mono ?_
  rintro e w' ⟨rfl, rfl⟩
  go_wp2_with fail
  rw [rounds_succ]
  go_wp2_with fail
  refine (rtext_3 _).mono ?_
  rintro e w' ⟨rfl, rfl⟩
  go_wp2_with fail
  rw [rounds_succ]
  go_wp2_with fail
  refine (rtext_4 _).mono ?_
  rintro e w' ⟨rfl, rfl⟩
  go_wp2_with fail
  rw [rounds_succ]
  go_wp2_with fail
  refine (rtext_5 _).mono ?_
  rintro e w' ⟨rfl, rfl⟩
  go_wp2_with fail
  rw [rounds_succ]
  go_wp2_with fail
  refine (rtext_6 _).mono ?_
  rintro e w' ⟨rfl, rfl⟩
  go_wp2_with fail
  rw [rounds_succ]
  go_wp2_with fail
  refine (rtext_7 _).mono ?_
  rintro e w' ⟨rfl, rfl⟩
  go_wp2_with fail
  rw [rounds_succ]
  go_wp2_with fail
  go_ret2
  exact ⟨rfl, rfl⟩
end Go.Proofs.Ytdmpdfogilcjnaa
