/- The walks of kinds.Slots, kinds.Frames and the reference's Frames. -/
import Derived.Test.YtofmcaagnhdecaaBase
import Derived.WalkLawsBesides
import Derived.WalkSpells
import Derived.WalkMore
namespace Go.Proofs.Ytofmcaagnhdecaa
open Go.RowKit
def slotsV (k s : Int) : Int := if k = 2 then (if s = 1 then 2 else if s = 2 then 4 else if s = 3 then 8 else if s = 4 then 16 else 0) else if k = 9 ∧ s = 0 then 3 else 0
def framesV (k s : Int) : Int := if k = 1 then (if 1 ≤ s ∧ s ≤ 64 then s else 0) else if k = 2 then (if s = 1 ∨ s = 2 then 1 else if s = 3 then 2 else if s = 4 then 4 else 0) else if 3 ≤ k ∧ k ≤ 9 ∧ k ≠ 7 then (if s = 0 then 1 else 0) else 0
theorem slots_2_1  (w : World)  : Calls Try.prog 29 #[.int .i64 2, .int .i64 1] w fun e w' => e = .returned (.int .i64 2) ∧ w = w' := by
  go_enter Try.func29, Try.ntmps29
  go_wp2
  go_ret
  exact ⟨rfl, rfl⟩
theorem slots_2_2  (w : World)  : Calls Try.prog 29 #[.int .i64 2, .int .i64 2] w fun e w' => e = .returned (.int .i64 4) ∧ w = w' := by
  go_enter Try.func29, Try.ntmps29
  go_wp2
  go_ret
  exact ⟨rfl, rfl⟩
theorem slots_2_3  (w : World)  : Calls Try.prog 29 #[.int .i64 2, .int .i64 3] w fun e w' => e = .returned (.int .i64 8) ∧ w = w' := by
  go_enter Try.func29, Try.ntmps29
  go_wp2
  go_ret
  exact ⟨rfl, rfl⟩
theorem slots_2_4  (w : World)  : Calls Try.prog 29 #[.int .i64 2, .int .i64 4] w fun e w' => e = .returned (.int .i64 16) ∧ w = w' := by
  go_enter Try.func29, Try.ntmps29
  go_wp2
  go_ret
  exact ⟨rfl, rfl⟩
theorem slots_2_lo (s : Int) (w : World) (h0 : s < 1) : Calls Try.prog 29 #[.int .i64 2, .int .i64 s] w fun e w' => e = .returned (.int .i64 0) ∧ w = w' := by
  go_enter Try.func29, Try.ntmps29
  go_wp2
  go_ret
  exact ⟨rfl, rfl⟩
theorem slots_2_hi (s : Int) (w : World) (h0 : 4 < s) : Calls Try.prog 29 #[.int .i64 2, .int .i64 s] w fun e w' => e = .returned (.int .i64 0) ∧ w = w' := by
  go_enter Try.func29, Try.ntmps29
  go_wp2
  go_ret
  exact ⟨rfl, rfl⟩
theorem slots_9_0  (w : World)  : Calls Try.prog 29 #[.int .i64 9, .int .i64 0] w fun e w' => e = .returned (.int .i64 3) ∧ w = w' := by
  go_enter Try.func29, Try.ntmps29
  go_wp2
  go_ret
  exact ⟨rfl, rfl⟩
theorem slots_9_n (s : Int) (w : World) (h0 : ¬ s = 0) : Calls Try.prog 29 #[.int .i64 9, .int .i64 s] w fun e w' => e = .returned (.int .i64 0) ∧ w = w' := by
  go_enter Try.func29, Try.ntmps29
  go_wp2
  go_ret
  exact ⟨rfl, rfl⟩
theorem slots_x (k : Int) (s : Int) (w : World) (h0 : ¬ k = 2) (h1 : ¬ k = 9) : Calls Try.prog 29 #[.int .i64 k, .int .i64 s] w fun e w' => e = .returned (.int .i64 0) ∧ w = w' := by
  go_enter Try.func29, Try.ntmps29
  go_wp2
  go_ret
  exact ⟨rfl, rfl⟩
theorem slots_any (k s : Int) (w : World) : Calls Try.prog 29 #[.int .i64 k, .int .i64 s] w fun e w' => e = .returned (.int .i64 (slotsV k s)) ∧ w = w' := by
  unfold slotsV
  by_cases h2 : k = 2
  · subst h2
    rw [if_pos rfl]
    by_cases s1 : s = 1
    · subst s1; exact slots_2_1 w
    by_cases s2 : s = 2
    · subst s2; exact slots_2_2 w
    by_cases s3 : s = 3
    · subst s3; exact slots_2_3 w
    by_cases s4 : s = 4
    · subst s4; exact slots_2_4 w
    rw [if_neg s1, if_neg s2, if_neg s3, if_neg s4]
    by_cases hl : s < 1
    · exact slots_2_lo s w hl
    · exact slots_2_hi s w (by omega)
  · rw [if_neg h2]
    by_cases h9 : k = 9
    · subst h9
      by_cases s0 : s = 0
      · subst s0; exact slots_9_0 w
      · rw [if_neg (fun h => s0 h.2)]; exact slots_9_n s w s0
    · rw [if_neg (fun h => h9 h.1)]; exact slots_x k s w h2 h9
theorem frames_1_in (s : Int) (w : World) (h0 : 1 ≤ s) (h1 : s ≤ 64) : Calls Try.prog 27 #[.int .i64 1, .int .i64 s] w fun e w' => e = .returned (.int .i64 s) ∧ w = w' := by
  go_enter Try.func27, Try.ntmps27
  go_wp2
  go_ret
  exact ⟨rfl, rfl⟩
theorem frames_1_lo (s : Int) (w : World) (h0 : s < 1) : Calls Try.prog 27 #[.int .i64 1, .int .i64 s] w fun e w' => e = .returned (.int .i64 0) ∧ w = w' := by
  go_enter Try.func27, Try.ntmps27
  go_wp2
  go_ret
  exact ⟨rfl, rfl⟩
theorem frames_1_hi (s : Int) (w : World) (h0 : 64 < s) : Calls Try.prog 27 #[.int .i64 1, .int .i64 s] w fun e w' => e = .returned (.int .i64 0) ∧ w = w' := by
  go_enter Try.func27, Try.ntmps27
  go_wp2
  go_ret
  exact ⟨rfl, rfl⟩
theorem frames_2_1  (w : World)  : Calls Try.prog 27 #[.int .i64 2, .int .i64 1] w fun e w' => e = .returned (.int .i64 1) ∧ w = w' := by
  go_enter Try.func27, Try.ntmps27
  go_wp2
  go_ret
  exact ⟨rfl, rfl⟩
theorem frames_2_2  (w : World)  : Calls Try.prog 27 #[.int .i64 2, .int .i64 2] w fun e w' => e = .returned (.int .i64 1) ∧ w = w' := by
  go_enter Try.func27, Try.ntmps27
  go_wp2
  go_ret
  exact ⟨rfl, rfl⟩
theorem frames_2_3  (w : World)  : Calls Try.prog 27 #[.int .i64 2, .int .i64 3] w fun e w' => e = .returned (.int .i64 2) ∧ w = w' := by
  go_enter Try.func27, Try.ntmps27
  go_wp2
  go_ret
  exact ⟨rfl, rfl⟩
theorem frames_2_4  (w : World)  : Calls Try.prog 27 #[.int .i64 2, .int .i64 4] w fun e w' => e = .returned (.int .i64 4) ∧ w = w' := by
  go_enter Try.func27, Try.ntmps27
  go_wp2
  go_ret
  exact ⟨rfl, rfl⟩
theorem frames_2_lo (s : Int) (w : World) (h0 : s < 1) : Calls Try.prog 27 #[.int .i64 2, .int .i64 s] w fun e w' => e = .returned (.int .i64 0) ∧ w = w' := by
  go_enter Try.func27, Try.ntmps27
  go_wp2
  go_ret
  exact ⟨rfl, rfl⟩
theorem frames_2_hi (s : Int) (w : World) (h0 : 4 < s) : Calls Try.prog 27 #[.int .i64 2, .int .i64 s] w fun e w' => e = .returned (.int .i64 0) ∧ w = w' := by
  go_enter Try.func27, Try.ntmps27
  go_wp2
  go_ret
  exact ⟨rfl, rfl⟩
theorem frames_3_0  (w : World)  : Calls Try.prog 27 #[.int .i64 3, .int .i64 0] w fun e w' => e = .returned (.int .i64 1) ∧ w = w' := by
  go_enter Try.func27, Try.ntmps27
  go_wp2
  go_ret
  exact ⟨rfl, rfl⟩
theorem frames_3_n (s : Int) (w : World) (h0 : ¬ s = 0) : Calls Try.prog 27 #[.int .i64 3, .int .i64 s] w fun e w' => e = .returned (.int .i64 0) ∧ w = w' := by
  go_enter Try.func27, Try.ntmps27
  go_wp2
  go_ret
  exact ⟨rfl, rfl⟩
theorem frames_4_0  (w : World)  : Calls Try.prog 27 #[.int .i64 4, .int .i64 0] w fun e w' => e = .returned (.int .i64 1) ∧ w = w' := by
  go_enter Try.func27, Try.ntmps27
  go_wp2
  go_ret
  exact ⟨rfl, rfl⟩
theorem frames_4_n (s : Int) (w : World) (h0 : ¬ s = 0) : Calls Try.prog 27 #[.int .i64 4, .int .i64 s] w fun e w' => e = .returned (.int .i64 0) ∧ w = w' := by
  go_enter Try.func27, Try.ntmps27
  go_wp2
  go_ret
  exact ⟨rfl, rfl⟩
theorem frames_5_0  (w : World)  : Calls Try.prog 27 #[.int .i64 5, .int .i64 0] w fun e w' => e = .returned (.int .i64 1) ∧ w = w' := by
  go_enter Try.func27, Try.ntmps27
  go_wp2
  go_ret
  exact ⟨rfl, rfl⟩
theorem frames_5_n (s : Int) (w : World) (h0 : ¬ s = 0) : Calls Try.prog 27 #[.int .i64 5, .int .i64 s] w fun e w' => e = .returned (.int .i64 0) ∧ w = w' := by
  go_enter Try.func27, Try.ntmps27
  go_wp2
  go_ret
  exact ⟨rfl, rfl⟩
theorem frames_6_0  (w : World)  : Calls Try.prog 27 #[.int .i64 6, .int .i64 0] w fun e w' => e = .returned (.int .i64 1) ∧ w = w' := by
  go_enter Try.func27, Try.ntmps27
  go_wp2
  go_ret
  exact ⟨rfl, rfl⟩
theorem frames_6_n (s : Int) (w : World) (h0 : ¬ s = 0) : Calls Try.prog 27 #[.int .i64 6, .int .i64 s] w fun e w' => e = .returned (.int .i64 0) ∧ w = w' := by
  go_enter Try.func27, Try.ntmps27
  go_wp2
  go_ret
  exact ⟨rfl, rfl⟩
theorem frames_8_0  (w : World)  : Calls Try.prog 27 #[.int .i64 8, .int .i64 0] w fun e w' => e = .returned (.int .i64 1) ∧ w = w' := by
  go_enter Try.func27, Try.ntmps27
  go_wp2
  go_ret
  exact ⟨rfl, rfl⟩
theorem frames_8_n (s : Int) (w : World) (h0 : ¬ s = 0) : Calls Try.prog 27 #[.int .i64 8, .int .i64 s] w fun e w' => e = .returned (.int .i64 0) ∧ w = w' := by
  go_enter Try.func27, Try.ntmps27
  go_wp2
  go_ret
  exact ⟨rfl, rfl⟩
theorem frames_9_0  (w : World)  : Calls Try.prog 27 #[.int .i64 9, .int .i64 0] w fun e w' => e = .returned (.int .i64 1) ∧ w = w' := by
  go_enter Try.func27, Try.ntmps27
  go_wp2
  go_ret
  exact ⟨rfl, rfl⟩
theorem frames_9_n (s : Int) (w : World) (h0 : ¬ s = 0) : Calls Try.prog 27 #[.int .i64 9, .int .i64 s] w fun e w' => e = .returned (.int .i64 0) ∧ w = w' := by
  go_enter Try.func27, Try.ntmps27
  go_wp2
  go_ret
  exact ⟨rfl, rfl⟩
theorem frames_x (k : Int) (s : Int) (w : World) (h0 : ¬ k = 1) (h1 : ¬ k = 2) (h2 : ¬ k = 3) (h3 : ¬ k = 4) (h4 : ¬ k = 5) (h5 : ¬ k = 6) (h6 : ¬ k = 8) (h7 : ¬ k = 9) : Calls Try.prog 27 #[.int .i64 k, .int .i64 s] w fun e w' => e = .returned (.int .i64 0) ∧ w = w' := by
  go_enter Try.func27, Try.ntmps27
  go_wp2
  go_ret
  exact ⟨rfl, rfl⟩
theorem frames_any (k s : Int) (w : World) : Calls Try.prog 27 #[.int .i64 k, .int .i64 s] w fun e w' => e = .returned (.int .i64 (framesV k s)) ∧ w = w' := by
  unfold framesV
  by_cases h1 : k = 1
  · subst h1
    rw [if_pos rfl]
    by_cases hl : s < 1
    · rw [if_neg (by omega)]; exact frames_1_lo s w hl
    by_cases hh : 64 < s
    · rw [if_neg (by omega)]; exact frames_1_hi s w hh
    · rw [if_pos (by omega)]; exact frames_1_in s w (by omega) (by omega)
  rw [if_neg h1]
  by_cases h2 : k = 2
  · subst h2
    rw [if_pos rfl]
    by_cases s1 : s = 1
    · subst s1; exact frames_2_1 w
    by_cases s2 : s = 2
    · subst s2; exact frames_2_2 w
    by_cases s3 : s = 3
    · subst s3; exact frames_2_3 w
    by_cases s4 : s = 4
    · subst s4; exact frames_2_4 w
    rw [if_neg (by omega), if_neg s3, if_neg s4]
    by_cases hl : s < 1
    · exact frames_2_lo s w hl
    · exact frames_2_hi s w (by omega)
  rw [if_neg h2]
  by_cases h3 : k = 3
  · subst h3
    rw [if_pos (by omega)]
    by_cases s0 : s = 0
    · subst s0; exact frames_3_0 w
    · rw [if_neg s0]; exact frames_3_n s w s0
  by_cases h4 : k = 4
  · subst h4
    rw [if_pos (by omega)]
    by_cases s0 : s = 0
    · subst s0; exact frames_4_0 w
    · rw [if_neg s0]; exact frames_4_n s w s0
  by_cases h5 : k = 5
  · subst h5
    rw [if_pos (by omega)]
    by_cases s0 : s = 0
    · subst s0; exact frames_5_0 w
    · rw [if_neg s0]; exact frames_5_n s w s0
  by_cases h6 : k = 6
  · subst h6
    rw [if_pos (by omega)]
    by_cases s0 : s = 0
    · subst s0; exact frames_6_0 w
    · rw [if_neg s0]; exact frames_6_n s w s0
  by_cases h8 : k = 8
  · subst h8
    rw [if_pos (by omega)]
    by_cases s0 : s = 0
    · subst s0; exact frames_8_0 w
    · rw [if_neg s0]; exact frames_8_n s w s0
  by_cases h9 : k = 9
  · subst h9
    rw [if_pos (by omega)]
    by_cases s0 : s = 0
    · subst s0; exact frames_9_0 w
    · rw [if_neg s0]; exact frames_9_n s w s0
  rw [if_neg (by omega)]
  exact frames_x k s w h1 h2 h3 h4 h5 h6 h8 h9
theorem rframes_1_in (s : Int) (w : World) (h0 : 1 ≤ s) (h1 : s ≤ 64) : Calls Try.prog 19 #[.int .i64 1, .int .i64 s] w fun e w' => e = .returned (.int .i64 s) ∧ w = w' := by
  go_enter Try.func19, Try.ntmps19
  go_wp2
  go_ret
  exact ⟨rfl, rfl⟩
theorem rframes_1_lo (s : Int) (w : World) (h0 : s < 1) : Calls Try.prog 19 #[.int .i64 1, .int .i64 s] w fun e w' => e = .returned (.int .i64 0) ∧ w = w' := by
  go_enter Try.func19, Try.ntmps19
  go_wp2
  go_ret
  exact ⟨rfl, rfl⟩
theorem rframes_1_hi (s : Int) (w : World) (h0 : 64 < s) : Calls Try.prog 19 #[.int .i64 1, .int .i64 s] w fun e w' => e = .returned (.int .i64 0) ∧ w = w' := by
  go_enter Try.func19, Try.ntmps19
  go_wp2
  go_ret
  exact ⟨rfl, rfl⟩
theorem rframes_2_1  (w : World)  : Calls Try.prog 19 #[.int .i64 2, .int .i64 1] w fun e w' => e = .returned (.int .i64 1) ∧ w = w' := by
  go_enter Try.func19, Try.ntmps19
  go_wp2
  go_ret
  exact ⟨rfl, rfl⟩
theorem rframes_2_2  (w : World)  : Calls Try.prog 19 #[.int .i64 2, .int .i64 2] w fun e w' => e = .returned (.int .i64 1) ∧ w = w' := by
  go_enter Try.func19, Try.ntmps19
  go_wp2
  go_ret
  exact ⟨rfl, rfl⟩
theorem rframes_2_3  (w : World)  : Calls Try.prog 19 #[.int .i64 2, .int .i64 3] w fun e w' => e = .returned (.int .i64 2) ∧ w = w' := by
  go_enter Try.func19, Try.ntmps19
  go_wp2
  go_ret
  exact ⟨rfl, rfl⟩
theorem rframes_2_4  (w : World)  : Calls Try.prog 19 #[.int .i64 2, .int .i64 4] w fun e w' => e = .returned (.int .i64 4) ∧ w = w' := by
  go_enter Try.func19, Try.ntmps19
  go_wp2
  go_ret
  exact ⟨rfl, rfl⟩
theorem rframes_2_lo (s : Int) (w : World) (h0 : s < 1) : Calls Try.prog 19 #[.int .i64 2, .int .i64 s] w fun e w' => e = .returned (.int .i64 0) ∧ w = w' := by
  go_enter Try.func19, Try.ntmps19
  go_wp2
  go_ret
  exact ⟨rfl, rfl⟩
theorem rframes_2_hi (s : Int) (w : World) (h0 : 4 < s) : Calls Try.prog 19 #[.int .i64 2, .int .i64 s] w fun e w' => e = .returned (.int .i64 0) ∧ w = w' := by
  go_enter Try.func19, Try.ntmps19
  go_wp2
  go_ret
  exact ⟨rfl, rfl⟩
theorem rframes_3_0  (w : World)  : Calls Try.prog 19 #[.int .i64 3, .int .i64 0] w fun e w' => e = .returned (.int .i64 1) ∧ w = w' := by
  go_enter Try.func19, Try.ntmps19
  go_wp2
  go_ret
  exact ⟨rfl, rfl⟩
theorem rframes_3_n (s : Int) (w : World) (h0 : ¬ s = 0) : Calls Try.prog 19 #[.int .i64 3, .int .i64 s] w fun e w' => e = .returned (.int .i64 0) ∧ w = w' := by
  go_enter Try.func19, Try.ntmps19
  go_wp2
  go_ret
  exact ⟨rfl, rfl⟩
theorem rframes_4_0  (w : World)  : Calls Try.prog 19 #[.int .i64 4, .int .i64 0] w fun e w' => e = .returned (.int .i64 1) ∧ w = w' := by
  go_enter Try.func19, Try.ntmps19
  go_wp2
  go_ret
  exact ⟨rfl, rfl⟩
theorem rframes_4_n (s : Int) (w : World) (h0 : ¬ s = 0) : Calls Try.prog 19 #[.int .i64 4, .int .i64 s] w fun e w' => e = .returned (.int .i64 0) ∧ w = w' := by
  go_enter Try.func19, Try.ntmps19
  go_wp2
  go_ret
  exact ⟨rfl, rfl⟩
theorem rframes_5_0  (w : World)  : Calls Try.prog 19 #[.int .i64 5, .int .i64 0] w fun e w' => e = .returned (.int .i64 1) ∧ w = w' := by
  go_enter Try.func19, Try.ntmps19
  go_wp2
  go_ret
  exact ⟨rfl, rfl⟩
theorem rframes_5_n (s : Int) (w : World) (h0 : ¬ s = 0) : Calls Try.prog 19 #[.int .i64 5, .int .i64 s] w fun e w' => e = .returned (.int .i64 0) ∧ w = w' := by
  go_enter Try.func19, Try.ntmps19
  go_wp2
  go_ret
  exact ⟨rfl, rfl⟩
theorem rframes_6_0  (w : World)  : Calls Try.prog 19 #[.int .i64 6, .int .i64 0] w fun e w' => e = .returned (.int .i64 1) ∧ w = w' := by
  go_enter Try.func19, Try.ntmps19
  go_wp2
  go_ret
  exact ⟨rfl, rfl⟩
theorem rframes_6_n (s : Int) (w : World) (h0 : ¬ s = 0) : Calls Try.prog 19 #[.int .i64 6, .int .i64 s] w fun e w' => e = .returned (.int .i64 0) ∧ w = w' := by
  go_enter Try.func19, Try.ntmps19
  go_wp2
  go_ret
  exact ⟨rfl, rfl⟩
theorem rframes_8_0  (w : World)  : Calls Try.prog 19 #[.int .i64 8, .int .i64 0] w fun e w' => e = .returned (.int .i64 1) ∧ w = w' := by
  go_enter Try.func19, Try.ntmps19
  go_wp2
  go_ret
  exact ⟨rfl, rfl⟩
theorem rframes_8_n (s : Int) (w : World) (h0 : ¬ s = 0) : Calls Try.prog 19 #[.int .i64 8, .int .i64 s] w fun e w' => e = .returned (.int .i64 0) ∧ w = w' := by
  go_enter Try.func19, Try.ntmps19
  go_wp2
  go_ret
  exact ⟨rfl, rfl⟩
theorem rframes_9_0  (w : World)  : Calls Try.prog 19 #[.int .i64 9, .int .i64 0] w fun e w' => e = .returned (.int .i64 1) ∧ w = w' := by
  go_enter Try.func19, Try.ntmps19
  go_wp2
  go_ret
  exact ⟨rfl, rfl⟩
theorem rframes_9_n (s : Int) (w : World) (h0 : ¬ s = 0) : Calls Try.prog 19 #[.int .i64 9, .int .i64 s] w fun e w' => e = .returned (.int .i64 0) ∧ w = w' := by
  go_enter Try.func19, Try.ntmps19
  go_wp2
  go_ret
  exact ⟨rfl, rfl⟩
theorem rframes_x (k : Int) (s : Int) (w : World) (h0 : ¬ k = 1) (h1 : ¬ k = 2) (h2 : ¬ k = 3) (h3 : ¬ k = 4) (h4 : ¬ k = 5) (h5 : ¬ k = 6) (h6 : ¬ k = 8) (h7 : ¬ k = 9) : Calls Try.prog 19 #[.int .i64 k, .int .i64 s] w fun e w' => e = .returned (.int .i64 0) ∧ w = w' := by
  go_enter Try.func19, Try.ntmps19
  go_wp2
  go_ret
  exact ⟨rfl, rfl⟩
theorem rframes_any (k s : Int) (w : World) : Calls Try.prog 19 #[.int .i64 k, .int .i64 s] w fun e w' => e = .returned (.int .i64 (framesV k s)) ∧ w = w' := by
  unfold framesV
  by_cases h1 : k = 1
  · subst h1
    rw [if_pos rfl]
    by_cases hl : s < 1
    · rw [if_neg (by omega)]; exact rframes_1_lo s w hl
    by_cases hh : 64 < s
    · rw [if_neg (by omega)]; exact rframes_1_hi s w hh
    · rw [if_pos (by omega)]; exact rframes_1_in s w (by omega) (by omega)
  rw [if_neg h1]
  by_cases h2 : k = 2
  · subst h2
    rw [if_pos rfl]
    by_cases s1 : s = 1
    · subst s1; exact rframes_2_1 w
    by_cases s2 : s = 2
    · subst s2; exact rframes_2_2 w
    by_cases s3 : s = 3
    · subst s3; exact rframes_2_3 w
    by_cases s4 : s = 4
    · subst s4; exact rframes_2_4 w
    rw [if_neg (by omega), if_neg s3, if_neg s4]
    by_cases hl : s < 1
    · exact rframes_2_lo s w hl
    · exact rframes_2_hi s w (by omega)
  rw [if_neg h2]
  by_cases h3 : k = 3
  · subst h3
    rw [if_pos (by omega)]
    by_cases s0 : s = 0
    · subst s0; exact rframes_3_0 w
    · rw [if_neg s0]; exact rframes_3_n s w s0
  by_cases h4 : k = 4
  · subst h4
    rw [if_pos (by omega)]
    by_cases s0 : s = 0
    · subst s0; exact rframes_4_0 w
    · rw [if_neg s0]; exact rframes_4_n s w s0
  by_cases h5 : k = 5
  · subst h5
    rw [if_pos (by omega)]
    by_cases s0 : s = 0
    · subst s0; exact rframes_5_0 w
    · rw [if_neg s0]; exact rframes_5_n s w s0
  by_cases h6 : k = 6
  · subst h6
    rw [if_pos (by omega)]
    by_cases s0 : s = 0
    · subst s0; exact rframes_6_0 w
    · rw [if_neg s0]; exact rframes_6_n s w s0
  by_cases h8 : k = 8
  · subst h8
    rw [if_pos (by omega)]
    by_cases s0 : s = 0
    · subst s0; exact rframes_8_0 w
    · rw [if_neg s0]; exact rframes_8_n s w s0
  by_cases h9 : k = 9
  · subst h9
    rw [if_pos (by omega)]
    by_cases s0 : s = 0
    · subst s0; exact rframes_9_0 w
    · rw [if_neg s0]; exact rframes_9_n s w s0
  rw [if_neg (by omega)]
  exact rframes_x k s w h1 h2 h3 h4 h5 h6 h8 h9
end Go.Proofs.Ytofmcaagnhdecaa
