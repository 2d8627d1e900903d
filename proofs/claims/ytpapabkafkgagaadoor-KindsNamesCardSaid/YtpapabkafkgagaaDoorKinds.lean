/- The walks of package kinds and of the reference of chapter 10: Frames, Slots, Name, Of. The names of the kinds lie in block 0. -/
import Derived.Test.YtpapabkafkgagaaDoorBase
import Derived.WalkLawsBesides
import Derived.WalkSpells
import Derived.WalkMore
namespace Go.Proofs.YtpapabkafkgagaaDoor
open Go.RowKit

def namesL : List (List UInt8) := [[110, 111, 110, 101], [117, 110, 116, 121, 112, 101, 100], [110, 111, 100, 101], [102, 114, 97, 109, 101], [116, 97, 98, 108, 101], [114, 111, 111, 116], [112, 111, 111, 108], [99, 111, 110, 116, 114, 111, 108], [101, 110, 100, 112, 111, 105, 110, 116], [116, 104, 114, 101, 97, 100]]
/-- The package-level variable 'names', as its own text lays it. -/
def namesA : Array Value := #[.string ⟨#[110, 111, 110, 101]⟩, .string ⟨#[117, 110, 116, 121, 112, 101, 100]⟩, .string ⟨#[110, 111, 100, 101]⟩, .string ⟨#[102, 114, 97, 109, 101]⟩, .string ⟨#[116, 97, 98, 108, 101]⟩, .string ⟨#[114, 111, 111, 116]⟩, .string ⟨#[112, 111, 111, 108]⟩, .string ⟨#[99, 111, 110, 116, 114, 111, 108]⟩, .string ⟨#[101, 110, 100, 112, 111, 105, 110, 116]⟩, .string ⟨#[116, 104, 114, 101, 97, 100]⟩]
def NamesAt (w : World) : Prop := ∃ T fr, w.heap[0]? = some (.cells namesA T fr)
theorem NamesAt.cells {w : World} (h : NamesAt w) : w.cell? ⟨0, 0, none⟩ = some (.string ⟨#[110, 111, 110, 101]⟩) ∧ w.cell? ⟨0, 1, none⟩ = some (.string ⟨#[117, 110, 116, 121, 112, 101, 100]⟩) ∧ w.cell? ⟨0, 2, none⟩ = some (.string ⟨#[110, 111, 100, 101]⟩) ∧ w.cell? ⟨0, 3, none⟩ = some (.string ⟨#[102, 114, 97, 109, 101]⟩) ∧ w.cell? ⟨0, 4, none⟩ = some (.string ⟨#[116, 97, 98, 108, 101]⟩) ∧ w.cell? ⟨0, 5, none⟩ = some (.string ⟨#[114, 111, 111, 116]⟩) ∧ w.cell? ⟨0, 6, none⟩ = some (.string ⟨#[112, 111, 111, 108]⟩) ∧ w.cell? ⟨0, 7, none⟩ = some (.string ⟨#[99, 111, 110, 116, 114, 111, 108]⟩) ∧ w.cell? ⟨0, 8, none⟩ = some (.string ⟨#[101, 110, 100, 112, 111, 105, 110, 116]⟩) ∧ w.cell? ⟨0, 9, none⟩ = some (.string ⟨#[116, 104, 114, 101, 97, 100]⟩) := by
  obtain ⟨T, fr, h⟩ := h
  exact ⟨cell_of_row w 0 0 namesA T fr h, cell_of_row w 0 1 namesA T fr h, cell_of_row w 0 2 namesA T fr h, cell_of_row w 0 3 namesA T fr h, cell_of_row w 0 4 namesA T fr h, cell_of_row w 0 5 namesA T fr h, cell_of_row w 0 6 namesA T fr h, cell_of_row w 0 7 namesA T fr h, cell_of_row w 0 8 namesA T fr h, cell_of_row w 0 9 namesA T fr h⟩
/-- What a kind's object has of slots, and of frames. -/
def slotsV (k s : Int) : Int := if k = 2 then (if s = 1 then 2 else if s = 2 then 4 else if s = 3 then 8 else if s = 4 then 16 else 0) else if k = 9 ∧ s = 0 then 3 else 0
def framesV (k s : Int) : Int := if k = 1 then (if 1 ≤ s ∧ s ≤ 64 then s else 0) else if k = 2 then (if s = 1 ∨ s = 2 then 1 else if s = 3 then 2 else if s = 4 then 4 else 0) else if 3 ≤ k ∧ k ≤ 9 ∧ k ≠ 7 then (if s = 0 then 1 else 0) else 0
/-- A kind's name. -/
def nameV (k : Int) : List UInt8 := if 0 ≤ k then namesL.getD k.toNat [] else []
theorem slots_2_1  (w : World)  : Calls Tryd.prog 8 #[.int .i64 2, .int .i64 1] w fun e w' => e = .returned (.int .i64 2) ∧ w = w' := by
  go_enter Tryd.func8, Tryd.ntmps8
  go_wp2
  go_ret
  exact ⟨rfl, rfl⟩
theorem slots_2_2  (w : World)  : Calls Tryd.prog 8 #[.int .i64 2, .int .i64 2] w fun e w' => e = .returned (.int .i64 4) ∧ w = w' := by
  go_enter Tryd.func8, Tryd.ntmps8
  go_wp2
  go_ret
  exact ⟨rfl, rfl⟩
theorem slots_2_3  (w : World)  : Calls Tryd.prog 8 #[.int .i64 2, .int .i64 3] w fun e w' => e = .returned (.int .i64 8) ∧ w = w' := by
  go_enter Tryd.func8, Tryd.ntmps8
  go_wp2
  go_ret
  exact ⟨rfl, rfl⟩
theorem slots_2_4  (w : World)  : Calls Tryd.prog 8 #[.int .i64 2, .int .i64 4] w fun e w' => e = .returned (.int .i64 16) ∧ w = w' := by
  go_enter Tryd.func8, Tryd.ntmps8
  go_wp2
  go_ret
  exact ⟨rfl, rfl⟩
theorem slots_2_lo (s : Int) (w : World) (h0 : s < 1) : Calls Tryd.prog 8 #[.int .i64 2, .int .i64 s] w fun e w' => e = .returned (.int .i64 0) ∧ w = w' := by
  go_enter Tryd.func8, Tryd.ntmps8
  go_wp2
  go_ret
  exact ⟨rfl, rfl⟩
theorem slots_2_hi (s : Int) (w : World) (h0 : 4 < s) : Calls Tryd.prog 8 #[.int .i64 2, .int .i64 s] w fun e w' => e = .returned (.int .i64 0) ∧ w = w' := by
  go_enter Tryd.func8, Tryd.ntmps8
  go_wp2
  go_ret
  exact ⟨rfl, rfl⟩
theorem slots_9_0  (w : World)  : Calls Tryd.prog 8 #[.int .i64 9, .int .i64 0] w fun e w' => e = .returned (.int .i64 3) ∧ w = w' := by
  go_enter Tryd.func8, Tryd.ntmps8
  go_wp2
  go_ret
  exact ⟨rfl, rfl⟩
theorem slots_9_n (s : Int) (w : World) (h0 : ¬ s = 0) : Calls Tryd.prog 8 #[.int .i64 9, .int .i64 s] w fun e w' => e = .returned (.int .i64 0) ∧ w = w' := by
  go_enter Tryd.func8, Tryd.ntmps8
  go_wp2
  go_ret
  exact ⟨rfl, rfl⟩
theorem slots_x (k : Int) (s : Int) (w : World) (h0 : ¬ k = 2) (h1 : ¬ k = 9) : Calls Tryd.prog 8 #[.int .i64 k, .int .i64 s] w fun e w' => e = .returned (.int .i64 0) ∧ w = w' := by
  go_enter Tryd.func8, Tryd.ntmps8
  go_wp2
  go_ret
  exact ⟨rfl, rfl⟩
theorem slots_any (k s : Int) (w : World) : Calls Tryd.prog 8 #[.int .i64 k, .int .i64 s] w fun e w' => e = .returned (.int .i64 (slotsV k s)) ∧ w = w' := by
  unfold slotsV
  by_cases h2 : k = 2
  · subst h2
    rw [if_pos rfl]
    by_cases s1 : s = 1
    · subst s1; exact slots_2_1 w
    by_cases s2 : s = 2
    · subst s2; exact slots_2_2 w
    by_cases s3 : s = 3
    · subst s3; exact slots_2_3 w
    by_cases s4 : s = 4
    · subst s4; exact slots_2_4 w
    rw [if_neg s1, if_neg s2, if_neg s3, if_neg s4]
    by_cases hl : s < 1
    · exact slots_2_lo s w hl
    · exact slots_2_hi s w (by omega)
  · rw [if_neg h2]
    by_cases h9 : k = 9
    · subst h9
      by_cases s0 : s = 0
      · subst s0; exact slots_9_0 w
      · rw [if_neg (fun h => s0 h.2)]; exact slots_9_n s w s0
    · rw [if_neg (fun h => h9 h.1)]; exact slots_x k s w h2 h9
theorem frames_1_in (s : Int) (w : World) (h0 : 1 ≤ s) (h1 : s ≤ 64) : Calls Tryd.prog 6 #[.int .i64 1, .int .i64 s] w fun e w' => e = .returned (.int .i64 s) ∧ w = w' := by
  go_enter Tryd.func6, Tryd.ntmps6
  go_wp2
  go_ret
  exact ⟨rfl, rfl⟩
theorem frames_1_lo (s : Int) (w : World) (h0 : s < 1) : Calls Tryd.prog 6 #[.int .i64 1, .int .i64 s] w fun e w' => e = .returned (.int .i64 0) ∧ w = w' := by
  go_enter Tryd.func6, Tryd.ntmps6
  go_wp2
  go_ret
  exact ⟨rfl, rfl⟩
theorem frames_1_hi (s : Int) (w : World) (h0 : 64 < s) : Calls Tryd.prog 6 #[.int .i64 1, .int .i64 s] w fun e w' => e = .returned (.int .i64 0) ∧ w = w' := by
  go_enter Tryd.func6, Tryd.ntmps6
  go_wp2
  go_ret
  exact ⟨rfl, rfl⟩
theorem frames_2_1  (w : World)  : Calls Tryd.prog 6 #[.int .i64 2, .int .i64 1] w fun e w' => e = .returned (.int .i64 1) ∧ w = w' := by
  go_enter Tryd.func6, Tryd.ntmps6
  go_wp2
  go_ret
  exact ⟨rfl, rfl⟩
theorem frames_2_2  (w : World)  : Calls Tryd.prog 6 #[.int .i64 2, .int .i64 2] w fun e w' => e = .returned (.int .i64 1) ∧ w = w' := by
  go_enter Tryd.func6, Tryd.ntmps6
  go_wp2
  go_ret
  exact ⟨rfl, rfl⟩
theorem frames_2_3  (w : World)  : Calls Tryd.prog 6 #[.int .i64 2, .int .i64 3] w fun e w' => e = .returned (.int .i64 2) ∧ w = w' := by
  go_enter Tryd.func6, Tryd.ntmps6
  go_wp2
  go_ret
  exact ⟨rfl, rfl⟩
theorem frames_2_4  (w : World)  : Calls Tryd.prog 6 #[.int .i64 2, .int .i64 4] w fun e w' => e = .returned (.int .i64 4) ∧ w = w' := by
  go_enter Tryd.func6, Tryd.ntmps6
  go_wp2
  go_ret
  exact ⟨rfl, rfl⟩
theorem frames_2_lo (s : Int) (w : World) (h0 : s < 1) : Calls Tryd.prog 6 #[.int .i64 2, .int .i64 s] w fun e w' => e = .returned (.int .i64 0) ∧ w = w' := by
  go_enter Tryd.func6, Tryd.ntmps6
  go_wp2
  go_ret
  exact ⟨rfl, rfl⟩
theorem frames_2_hi (s : Int) (w : World) (h0 : 4 < s) : Calls Tryd.prog 6 #[.int .i64 2, .int .i64 s] w fun e w' => e = .returned (.int .i64 0) ∧ w = w' := by
  go_enter Tryd.func6, Tryd.ntmps6
  go_wp2
  go_ret
  exact ⟨rfl, rfl⟩
theorem frames_3_0  (w : World)  : Calls Tryd.prog 6 #[.int .i64 3, .int .i64 0] w fun e w' => e = .returned (.int .i64 1) ∧ w = w' := by
  go_enter Tryd.func6, Tryd.ntmps6
  go_wp2
  go_ret
  exact ⟨rfl, rfl⟩
theorem frames_3_n (s : Int) (w : World) (h0 : ¬ s = 0) : Calls Tryd.prog 6 #[.int .i64 3, .int .i64 s] w fun e w' => e = .returned (.int .i64 0) ∧ w = w' := by
  go_enter Tryd.func6, Tryd.ntmps6
  go_wp2
  go_ret
  exact ⟨rfl, rfl⟩
theorem frames_4_0  (w : World)  : Calls Tryd.prog 6 #[.int .i64 4, .int .i64 0] w fun e w' => e = .returned (.int .i64 1) ∧ w = w' := by
  go_enter Tryd.func6, Tryd.ntmps6
  go_wp2
  go_ret
  exact ⟨rfl, rfl⟩
theorem frames_4_n (s : Int) (w : World) (h0 : ¬ s = 0) : Calls Tryd.prog 6 #[.int .i64 4, .int .i64 s] w fun e w' => e = .returned (.int .i64 0) ∧ w = w' := by
  go_enter Tryd.func6, Tryd.ntmps6
  go_wp2
  go_ret
  exact ⟨rfl, rfl⟩
theorem frames_5_0  (w : World)  : Calls Tryd.prog 6 #[.int .i64 5, .int .i64 0] w fun e w' => e = .returned (.int .i64 1) ∧ w = w' := by
  go_enter Tryd.func6, Tryd.ntmps6
  go_wp2
  go_ret
  exact ⟨rfl, rfl⟩
theorem frames_5_n (s : Int) (w : World) (h0 : ¬ s = 0) : Calls Tryd.prog 6 #[.int .i64 5, .int .i64 s] w fun e w' => e = .returned (.int .i64 0) ∧ w = w' := by
  go_enter Tryd.func6, Tryd.ntmps6
  go_wp2
  go_ret
  exact ⟨rfl, rfl⟩
theorem frames_6_0  (w : World)  : Calls Tryd.prog 6 #[.int .i64 6, .int .i64 0] w fun e w' => e = .returned (.int .i64 1) ∧ w = w' := by
  go_enter Tryd.func6, Tryd.ntmps6
  go_wp2
  go_ret
  exact ⟨rfl, rfl⟩
theorem frames_6_n (s : Int) (w : World) (h0 : ¬ s = 0) : Calls Tryd.prog 6 #[.int .i64 6, .int .i64 s] w fun e w' => e = .returned (.int .i64 0) ∧ w = w' := by
  go_enter Tryd.func6, Tryd.ntmps6
  go_wp2
  go_ret
  exact ⟨rfl, rfl⟩
theorem frames_8_0  (w : World)  : Calls Tryd.prog 6 #[.int .i64 8, .int .i64 0] w fun e w' => e = .returned (.int .i64 1) ∧ w = w' := by
  go_enter Tryd.func6, Tryd.ntmps6
  go_wp2
  go_ret
  exact ⟨rfl, rfl⟩
theorem frames_8_n (s : Int) (w : World) (h0 : ¬ s = 0) : Calls Tryd.prog 6 #[.int .i64 8, .int .i64 s] w fun e w' => e = .returned (.int .i64 0) ∧ w = w' := by
  go_enter Tryd.func6, Tryd.ntmps6
  go_wp2
  go_ret
  exact ⟨rfl, rfl⟩
theorem frames_9_0  (w : World)  : Calls Tryd.prog 6 #[.int .i64 9, .int .i64 0] w fun e w' => e = .returned (.int .i64 1) ∧ w = w' := by
  go_enter Tryd.func6, Tryd.ntmps6
  go_wp2
  go_ret
  exact ⟨rfl, rfl⟩
theorem frames_9_n (s : Int) (w : World) (h0 : ¬ s = 0) : Calls Tryd.prog 6 #[.int .i64 9, .int .i64 s] w fun e w' => e = .returned (.int .i64 0) ∧ w = w' := by
  go_enter Tryd.func6, Tryd.ntmps6
  go_wp2
  go_ret
  exact ⟨rfl, rfl⟩
theorem frames_x (k : Int) (s : Int) (w : World) (h0 : ¬ k = 1) (h1 : ¬ k = 2) (h2 : ¬ k = 3) (h3 : ¬ k = 4) (h4 : ¬ k = 5) (h5 : ¬ k = 6) (h6 : ¬ k = 8) (h7 : ¬ k = 9) : Calls Tryd.prog 6 #[.int .i64 k, .int .i64 s] w fun e w' => e = .returned (.int .i64 0) ∧ w = w' := by
  go_enter Tryd.func6, Tryd.ntmps6
  go_wp2
  go_ret
  exact ⟨rfl, rfl⟩
theorem frames_any (k s : Int) (w : World) : Calls Tryd.prog 6 #[.int .i64 k, .int .i64 s] w fun e w' => e = .returned (.int .i64 (framesV k s)) ∧ w = w' := by
  unfold framesV
  by_cases h1 : k = 1
  · subst h1
    rw [if_pos rfl]
    by_cases hl : s < 1
    · rw [if_neg (by omega)]; exact frames_1_lo s w hl
    by_cases hh : 64 < s
    · rw [if_neg (by omega)]; exact frames_1_hi s w hh
    · rw [if_pos (by omega)]; exact frames_1_in s w (by omega) (by omega)
  rw [if_neg h1]
  by_cases h2 : k = 2
  · subst h2
    rw [if_pos rfl]
    by_cases s1 : s = 1
    · subst s1; exact frames_2_1 w
    by_cases s2 : s = 2
    · subst s2; exact frames_2_2 w
    by_cases s3 : s = 3
    · subst s3; exact frames_2_3 w
    by_cases s4 : s = 4
    · subst s4; exact frames_2_4 w
    rw [if_neg (by omega), if_neg s3, if_neg s4]
    by_cases hl : s < 1
    · exact frames_2_lo s w hl
    · exact frames_2_hi s w (by omega)
  rw [if_neg h2]
  by_cases h3 : k = 3
  · subst h3
    rw [if_pos (by omega)]
    by_cases s0 : s = 0
    · subst s0; exact frames_3_0 w
    · rw [if_neg s0]; exact frames_3_n s w s0
  by_cases h4 : k = 4
  · subst h4
    rw [if_pos (by omega)]
    by_cases s0 : s = 0
    · subst s0; exact frames_4_0 w
    · rw [if_neg s0]; exact frames_4_n s w s0
  by_cases h5 : k = 5
  · subst h5
    rw [if_pos (by omega)]
    by_cases s0 : s = 0
    · subst s0; exact frames_5_0 w
    · rw [if_neg s0]; exact frames_5_n s w s0
  by_cases h6 : k = 6
  · subst h6
    rw [if_pos (by omega)]
    by_cases s0 : s = 0
    · subst s0; exact frames_6_0 w
    · rw [if_neg s0]; exact frames_6_n s w s0
  by_cases h8 : k = 8
  · subst h8
    rw [if_pos (by omega)]
    by_cases s0 : s = 0
    · subst s0; exact frames_8_0 w
    · rw [if_neg s0]; exact frames_8_n s w s0
  by_cases h9 : k = 9
  · subst h9
    rw [if_pos (by omega)]
    by_cases s0 : s = 0
    · subst s0; exact frames_9_0 w
    · rw [if_neg s0]; exact frames_9_n s w s0
  rw [if_neg (by omega)]
  exact frames_x k s w h1 h2 h3 h4 h5 h6 h8 h9
theorem rslots_2_1  (w : World)  : Calls Tryd.prog 9 #[.int .i64 2, .int .i64 1] w fun e w' => e = .returned (.int .i64 2) ∧ w = w' := by
  go_enter Tryd.func9, Tryd.ntmps9
  go_wp2
  go_ret
  exact ⟨rfl, rfl⟩
theorem rslots_2_2  (w : World)  : Calls Tryd.prog 9 #[.int .i64 2, .int .i64 2] w fun e w' => e = .returned (.int .i64 4) ∧ w = w' := by
  go_enter Tryd.func9, Tryd.ntmps9
  go_wp2
  go_ret
  exact ⟨rfl, rfl⟩
theorem rslots_2_3  (w : World)  : Calls Tryd.prog 9 #[.int .i64 2, .int .i64 3] w fun e w' => e = .returned (.int .i64 8) ∧ w = w' := by
  go_enter Tryd.func9, Tryd.ntmps9
  go_wp2
  go_ret
  exact ⟨rfl, rfl⟩
theorem rslots_2_4  (w : World)  : Calls Tryd.prog 9 #[.int .i64 2, .int .i64 4] w fun e w' => e = .returned (.int .i64 16) ∧ w = w' := by
  go_enter Tryd.func9, Tryd.ntmps9
  go_wp2
  go_ret
  exact ⟨rfl, rfl⟩
theorem rslots_2_lo (s : Int) (w : World) (h0 : s < 1) : Calls Tryd.prog 9 #[.int .i64 2, .int .i64 s] w fun e w' => e = .returned (.int .i64 0) ∧ w = w' := by
  go_enter Tryd.func9, Tryd.ntmps9
  go_wp2
  go_ret
  exact ⟨rfl, rfl⟩
theorem rslots_2_hi (s : Int) (w : World) (h0 : 4 < s) : Calls Tryd.prog 9 #[.int .i64 2, .int .i64 s] w fun e w' => e = .returned (.int .i64 0) ∧ w = w' := by
  go_enter Tryd.func9, Tryd.ntmps9
  go_wp2
  go_ret
  exact ⟨rfl, rfl⟩
theorem rslots_9_0  (w : World)  : Calls Tryd.prog 9 #[.int .i64 9, .int .i64 0] w fun e w' => e = .returned (.int .i64 3) ∧ w = w' := by
  go_enter Tryd.func9, Tryd.ntmps9
  go_wp2
  go_ret
  exact ⟨rfl, rfl⟩
theorem rslots_9_n (s : Int) (w : World) (h0 : ¬ s = 0) : Calls Tryd.prog 9 #[.int .i64 9, .int .i64 s] w fun e w' => e = .returned (.int .i64 0) ∧ w = w' := by
  go_enter Tryd.func9, Tryd.ntmps9
  go_wp2
  go_ret
  exact ⟨rfl, rfl⟩
theorem rslots_x (k : Int) (s : Int) (w : World) (h0 : ¬ k = 2) (h1 : ¬ k = 9) : Calls Tryd.prog 9 #[.int .i64 k, .int .i64 s] w fun e w' => e = .returned (.int .i64 0) ∧ w = w' := by
  go_enter Tryd.func9, Tryd.ntmps9
  go_wp2
  go_ret
  exact ⟨rfl, rfl⟩
theorem rslots_any (k s : Int) (w : World) : Calls Tryd.prog 9 #[.int .i64 k, .int .i64 s] w fun e w' => e = .returned (.int .i64 (slotsV k s)) ∧ w = w' := by
  unfold slotsV
  by_cases h2 : k = 2
  · subst h2
    rw [if_pos rfl]
    by_cases s1 : s = 1
    · subst s1; exact rslots_2_1 w
    by_cases s2 : s = 2
    · subst s2; exact rslots_2_2 w
    by_cases s3 : s = 3
    · subst s3; exact rslots_2_3 w
    by_cases s4 : s = 4
    · subst s4; exact rslots_2_4 w
    rw [if_neg s1, if_neg s2, if_neg s3, if_neg s4]
    by_cases hl : s < 1
    · exact rslots_2_lo s w hl
    · exact rslots_2_hi s w (by omega)
  · rw [if_neg h2]
    by_cases h9 : k = 9
    · subst h9
      by_cases s0 : s = 0
      · subst s0; exact rslots_9_0 w
      · rw [if_neg (fun h => s0 h.2)]; exact rslots_9_n s w s0
    · rw [if_neg (fun h => h9 h.1)]; exact rslots_x k s w h2 h9
theorem rframes_1_in (s : Int) (w : World) (h0 : 1 ≤ s) (h1 : s ≤ 64) : Calls Tryd.prog 7 #[.int .i64 1, .int .i64 s] w fun e w' => e = .returned (.int .i64 s) ∧ w = w' := by
  go_enter Tryd.func7, Tryd.ntmps7
  go_wp2
  go_ret
  exact ⟨rfl, rfl⟩
theorem rframes_1_lo (s : Int) (w : World) (h0 : s < 1) : Calls Tryd.prog 7 #[.int .i64 1, .int .i64 s] w fun e w' => e = .returned (.int .i64 0) ∧ w = w' := by
  go_enter Tryd.func7, Tryd.ntmps7
  go_wp2
  go_ret
  exact ⟨rfl, rfl⟩
theorem rframes_1_hi (s : Int) (w : World) (h0 : 64 < s) : Calls Tryd.prog 7 #[.int .i64 1, .int .i64 s] w fun e w' => e = .returned (.int .i64 0) ∧ w = w' := by
  go_enter Tryd.func7, Tryd.ntmps7
  go_wp2
  go_ret
  exact ⟨rfl, rfl⟩
theorem rframes_2_1  (w : World)  : Calls Tryd.prog 7 #[.int .i64 2, .int .i64 1] w fun e w' => e = .returned (.int .i64 1) ∧ w = w' := by
  go_enter Tryd.func7, Tryd.ntmps7
  go_wp2
  go_ret
  exact ⟨rfl, rfl⟩
theorem rframes_2_2  (w : World)  : Calls Tryd.prog 7 #[.int .i64 2, .int .i64 2] w fun e w' => e = .returned (.int .i64 1) ∧ w = w' := by
  go_enter Tryd.func7, Tryd.ntmps7
  go_wp2
  go_ret
  exact ⟨rfl, rfl⟩
theorem rframes_2_3  (w : World)  : Calls Tryd.prog 7 #[.int .i64 2, .int .i64 3] w fun e w' => e = .returned (.int .i64 2) ∧ w = w' := by
  go_enter Tryd.func7, Tryd.ntmps7
  go_wp2
  go_ret
  exact ⟨rfl, rfl⟩
theorem rframes_2_4  (w : World)  : Calls Tryd.prog 7 #[.int .i64 2, .int .i64 4] w fun e w' => e = .returned (.int .i64 4) ∧ w = w' := by
  go_enter Tryd.func7, Tryd.ntmps7
  go_wp2
  go_ret
  exact ⟨rfl, rfl⟩
theorem rframes_2_lo (s : Int) (w : World) (h0 : s < 1) : Calls Tryd.prog 7 #[.int .i64 2, .int .i64 s] w fun e w' => e = .returned (.int .i64 0) ∧ w = w' := by
  go_enter Tryd.func7, Tryd.ntmps7
  go_wp2
  go_ret
  exact ⟨rfl, rfl⟩
theorem rframes_2_hi (s : Int) (w : World) (h0 : 4 < s) : Calls Tryd.prog 7 #[.int .i64 2, .int .i64 s] w fun e w' => e = .returned (.int .i64 0) ∧ w = w' := by
  go_enter Tryd.func7, Tryd.ntmps7
  go_wp2
  go_ret
  exact ⟨rfl, rfl⟩
theorem rframes_3_0  (w : World)  : Calls Tryd.prog 7 #[.int .i64 3, .int .i64 0] w fun e w' => e = .returned (.int .i64 1) ∧ w = w' := by
  go_enter Tryd.func7, Tryd.ntmps7
  go_wp2
  go_ret
  exact ⟨rfl, rfl⟩
theorem rframes_3_n (s : Int) (w : World) (h0 : ¬ s = 0) : Calls Tryd.prog 7 #[.int .i64 3, .int .i64 s] w fun e w' => e = .returned (.int .i64 0) ∧ w = w' := by
  go_enter Tryd.func7, Tryd.ntmps7
  go_wp2
  go_ret
  exact ⟨rfl, rfl⟩
theorem rframes_4_0  (w : World)  : Calls Tryd.prog 7 #[.int .i64 4, .int .i64 0] w fun e w' => e = .returned (.int .i64 1) ∧ w = w' := by
  go_enter Tryd.func7, Tryd.ntmps7
  go_wp2
  go_ret
  exact ⟨rfl, rfl⟩
theorem rframes_4_n (s : Int) (w : World) (h0 : ¬ s = 0) : Calls Tryd.prog 7 #[.int .i64 4, .int .i64 s] w fun e w' => e = .returned (.int .i64 0) ∧ w = w' := by
  go_enter Tryd.func7, Tryd.ntmps7
  go_wp2
  go_ret
  exact ⟨rfl, rfl⟩
theorem rframes_5_0  (w : World)  : Calls Tryd.prog 7 #[.int .i64 5, .int .i64 0] w fun e w' => e = .returned (.int .i64 1) ∧ w = w' := by
  go_enter Tryd.func7, Tryd.ntmps7
  go_wp2
  go_ret
  exact ⟨rfl, rfl⟩
theorem rframes_5_n (s : Int) (w : World) (h0 : ¬ s = 0) : Calls Tryd.prog 7 #[.int .i64 5, .int .i64 s] w fun e w' => e = .returned (.int .i64 0) ∧ w = w' := by
  go_enter Tryd.func7, Tryd.ntmps7
  go_wp2
  go_ret
  exact ⟨rfl, rfl⟩
theorem rframes_6_0  (w : World)  : Calls Tryd.prog 7 #[.int .i64 6, .int .i64 0] w fun e w' => e = .returned (.int .i64 1) ∧ w = w' := by
  go_enter Tryd.func7, Tryd.ntmps7
  go_wp2
  go_ret
  exact ⟨rfl, rfl⟩
theorem rframes_6_n (s : Int) (w : World) (h0 : ¬ s = 0) : Calls Tryd.prog 7 #[.int .i64 6, .int .i64 s] w fun e w' => e = .returned (.int .i64 0) ∧ w = w' := by
  go_enter Tryd.func7, Tryd.ntmps7
  go_wp2
  go_ret
  exact ⟨rfl, rfl⟩
theorem rframes_8_0  (w : World)  : Calls Tryd.prog 7 #[.int .i64 8, .int .i64 0] w fun e w' => e = .returned (.int .i64 1) ∧ w = w' := by
  go_enter Tryd.func7, Tryd.ntmps7
  go_wp2
  go_ret
  exact ⟨rfl, rfl⟩
theorem rframes_8_n (s : Int) (w : World) (h0 : ¬ s = 0) : Calls Tryd.prog 7 #[.int .i64 8, .int .i64 s] w fun e w' => e = .returned (.int .i64 0) ∧ w = w' := by
  go_enter Tryd.func7, Tryd.ntmps7
  go_wp2
  go_ret
  exact ⟨rfl, rfl⟩
theorem rframes_9_0  (w : World)  : Calls Tryd.prog 7 #[.int .i64 9, .int .i64 0] w fun e w' => e = .returned (.int .i64 1) ∧ w = w' := by
  go_enter Tryd.func7, Tryd.ntmps7
  go_wp2
  go_ret
  exact ⟨rfl, rfl⟩
theorem rframes_9_n (s : Int) (w : World) (h0 : ¬ s = 0) : Calls Tryd.prog 7 #[.int .i64 9, .int .i64 s] w fun e w' => e = .returned (.int .i64 0) ∧ w = w' := by
  go_enter Tryd.func7, Tryd.ntmps7
  go_wp2
  go_ret
  exact ⟨rfl, rfl⟩
theorem rframes_x (k : Int) (s : Int) (w : World) (h0 : ¬ k = 1) (h1 : ¬ k = 2) (h2 : ¬ k = 3) (h3 : ¬ k = 4) (h4 : ¬ k = 5) (h5 : ¬ k = 6) (h6 : ¬ k = 8) (h7 : ¬ k = 9) : Calls Tryd.prog 7 #[.int .i64 k, .int .i64 s] w fun e w' => e = .returned (.int .i64 0) ∧ w = w' := by
  go_enter Tryd.func7, Tryd.ntmps7
  go_wp2
  go_ret
  exact ⟨rfl, rfl⟩
theorem rframes_any (k s : Int) (w : World) : Calls Tryd.prog 7 #[.int .i64 k, .int .i64 s] w fun e w' => e = .returned (.int .i64 (framesV k s)) ∧ w = w' := by
  unfold framesV
  by_cases h1 : k = 1
  · subst h1
    rw [if_pos rfl]
    by_cases hl : s < 1
    · rw [if_neg (by omega)]; exact rframes_1_lo s w hl
    by_cases hh : 64 < s
    · rw [if_neg (by omega)]; exact rframes_1_hi s w hh
    · rw [if_pos (by omega)]; exact rframes_1_in s w (by omega) (by omega)
  rw [if_neg h1]
  by_cases h2 : k = 2
  · subst h2
    rw [if_pos rfl]
    by_cases s1 : s = 1
    · subst s1; exact rframes_2_1 w
    by_cases s2 : s = 2
    · subst s2; exact rframes_2_2 w
    by_cases s3 : s = 3
    · subst s3; exact rframes_2_3 w
    by_cases s4 : s = 4
    · subst s4; exact rframes_2_4 w
    rw [if_neg (by omega), if_neg s3, if_neg s4]
    by_cases hl : s < 1
    · exact rframes_2_lo s w hl
    · exact rframes_2_hi s w (by omega)
  rw [if_neg h2]
  by_cases h3 : k = 3
  · subst h3
    rw [if_pos (by omega)]
    by_cases s0 : s = 0
    · subst s0; exact rframes_3_0 w
    · rw [if_neg s0]; exact rframes_3_n s w s0
  by_cases h4 : k = 4
  · subst h4
    rw [if_pos (by omega)]
    by_cases s0 : s = 0
    · subst s0; exact rframes_4_0 w
    · rw [if_neg s0]; exact rframes_4_n s w s0
  by_cases h5 : k = 5
  · subst h5
    rw [if_pos (by omega)]
    by_cases s0 : s = 0
    · subst s0; exact rframes_5_0 w
    · rw [if_neg s0]; exact rframes_5_n s w s0
  by_cases h6 : k = 6
  · subst h6
    rw [if_pos (by omega)]
    by_cases s0 : s = 0
    · subst s0; exact rframes_6_0 w
    · rw [if_neg s0]; exact rframes_6_n s w s0
  by_cases h8 : k = 8
  · subst h8
    rw [if_pos (by omega)]
    by_cases s0 : s = 0
    · subst s0; exact rframes_8_0 w
    · rw [if_neg s0]; exact rframes_8_n s w s0
  by_cases h9 : k = 9
  · subst h9
    rw [if_pos (by omega)]
    by_cases s0 : s = 0
    · subst s0; exact rframes_9_0 w
    · rw [if_neg s0]; exact rframes_9_n s w s0
  rw [if_neg (by omega)]
  exact rframes_x k s w h1 h2 h3 h4 h5 h6 h8 h9
theorem name_0 (w : World) (h : NamesAt w) : Calls Tryd.prog 10 #[.int .i64 0] w fun e w' => e = .returned (.string ⟨#[110, 111, 110, 101]⟩) ∧ w = w' := by
  obtain ⟨c0, c1, c2, c3, c4, c5, c6, c7, c8, c9⟩ := h.cells
  go_enter Tryd.func10, Tryd.ntmps10
  go_wp2
  go_ret
  exact ⟨rfl, rfl⟩
theorem rname_0 (w : World) : Calls Tryd.prog 11 #[.int .i64 0] w fun e w' => e = .returned (.string ⟨#[110, 111, 110, 101]⟩) ∧ w = w' := by
  go_enter Tryd.func11, Tryd.ntmps11
  go_wp2
  go_ret
  exact ⟨rfl, rfl⟩
theorem name_1 (w : World) (h : NamesAt w) : Calls Tryd.prog 10 #[.int .i64 1] w fun e w' => e = .returned (.string ⟨#[117, 110, 116, 121, 112, 101, 100]⟩) ∧ w = w' := by
  obtain ⟨c0, c1, c2, c3, c4, c5, c6, c7, c8, c9⟩ := h.cells
  go_enter Tryd.func10, Tryd.ntmps10
  go_wp2
  go_ret
  exact ⟨rfl, rfl⟩
theorem rname_1 (w : World) : Calls Tryd.prog 11 #[.int .i64 1] w fun e w' => e = .returned (.string ⟨#[117, 110, 116, 121, 112, 101, 100]⟩) ∧ w = w' := by
  go_enter Tryd.func11, Tryd.ntmps11
  go_wp2
  go_ret
  exact ⟨rfl, rfl⟩
theorem name_2 (w : World) (h : NamesAt w) : Calls Tryd.prog 10 #[.int .i64 2] w fun e w' => e = .returned (.string ⟨#[110, 111, 100, 101]⟩) ∧ w = w' := by
  obtain ⟨c0, c1, c2, c3, c4, c5, c6, c7, c8, c9⟩ := h.cells
  go_enter Tryd.func10, Tryd.ntmps10
  go_wp2
  go_ret
  exact ⟨rfl, rfl⟩
theorem rname_2 (w : World) : Calls Tryd.prog 11 #[.int .i64 2] w fun e w' => e = .returned (.string ⟨#[110, 111, 100, 101]⟩) ∧ w = w' := by
  go_enter Tryd.func11, Tryd.ntmps11
  go_wp2
  go_ret
  exact ⟨rfl, rfl⟩
theorem name_3 (w : World) (h : NamesAt w) : Calls Tryd.prog 10 #[.int .i64 3] w fun e w' => e = .returned (.string ⟨#[102, 114, 97, 109, 101]⟩) ∧ w = w' := by
  obtain ⟨c0, c1, c2, c3, c4, c5, c6, c7, c8, c9⟩ := h.cells
  go_enter Tryd.func10, Tryd.ntmps10
  go_wp2
  go_ret
  exact ⟨rfl, rfl⟩
theorem rname_3 (w : World) : Calls Tryd.prog 11 #[.int .i64 3] w fun e w' => e = .returned (.string ⟨#[102, 114, 97, 109, 101]⟩) ∧ w = w' := by
  go_enter Tryd.func11, Tryd.ntmps11
  go_wp2
  go_ret
  exact ⟨rfl, rfl⟩
theorem name_4 (w : World) (h : NamesAt w) : Calls Tryd.prog 10 #[.int .i64 4] w fun e w' => e = .returned (.string ⟨#[116, 97, 98, 108, 101]⟩) ∧ w = w' := by
  obtain ⟨c0, c1, c2, c3, c4, c5, c6, c7, c8, c9⟩ := h.cells
  go_enter Tryd.func10, Tryd.ntmps10
  go_wp2
  go_ret
  exact ⟨rfl, rfl⟩
theorem rname_4 (w : World) : Calls Tryd.prog 11 #[.int .i64 4] w fun e w' => e = .returned (.string ⟨#[116, 97, 98, 108, 101]⟩) ∧ w = w' := by
  go_enter Tryd.func11, Tryd.ntmps11
  go_wp2
  go_ret
  exact ⟨rfl, rfl⟩
theorem name_5 (w : World) (h : NamesAt w) : Calls Tryd.prog 10 #[.int .i64 5] w fun e w' => e = .returned (.string ⟨#[114, 111, 111, 116]⟩) ∧ w = w' := by
  obtain ⟨c0, c1, c2, c3, c4, c5, c6, c7, c8, c9⟩ := h.cells
  go_enter Tryd.func10, Tryd.ntmps10
  go_wp2
  go_ret
  exact ⟨rfl, rfl⟩
theorem rname_5 (w : World) : Calls Tryd.prog 11 #[.int .i64 5] w fun e w' => e = .returned (.string ⟨#[114, 111, 111, 116]⟩) ∧ w = w' := by
  go_enter Tryd.func11, Tryd.ntmps11
  go_wp2
  go_ret
  exact ⟨rfl, rfl⟩
theorem name_6 (w : World) (h : NamesAt w) : Calls Tryd.prog 10 #[.int .i64 6] w fun e w' => e = .returned (.string ⟨#[112, 111, 111, 108]⟩) ∧ w = w' := by
  obtain ⟨c0, c1, c2, c3, c4, c5, c6, c7, c8, c9⟩ := h.cells
  go_enter Tryd.func10, Tryd.ntmps10
  go_wp2
  go_ret
  exact ⟨rfl, rfl⟩
theorem rname_6 (w : World) : Calls Tryd.prog 11 #[.int .i64 6] w fun e w' => e = .returned (.string ⟨#[112, 111, 111, 108]⟩) ∧ w = w' := by
  go_enter Tryd.func11, Tryd.ntmps11
  go_wp2
  go_ret
  exact ⟨rfl, rfl⟩
theorem name_7 (w : World) (h : NamesAt w) : Calls Tryd.prog 10 #[.int .i64 7] w fun e w' => e = .returned (.string ⟨#[99, 111, 110, 116, 114, 111, 108]⟩) ∧ w = w' := by
  obtain ⟨c0, c1, c2, c3, c4, c5, c6, c7, c8, c9⟩ := h.cells
  go_enter Tryd.func10, Tryd.ntmps10
  go_wp2
  go_ret
  exact ⟨rfl, rfl⟩
theorem rname_7 (w : World) : Calls Tryd.prog 11 #[.int .i64 7] w fun e w' => e = .returned (.string ⟨#[99, 111, 110, 116, 114, 111, 108]⟩) ∧ w = w' := by
  go_enter Tryd.func11, Tryd.ntmps11
  go_wp2
  go_ret
  exact ⟨rfl, rfl⟩
theorem name_8 (w : World) (h : NamesAt w) : Calls Tryd.prog 10 #[.int .i64 8] w fun e w' => e = .returned (.string ⟨#[101, 110, 100, 112, 111, 105, 110, 116]⟩) ∧ w = w' := by
  obtain ⟨c0, c1, c2, c3, c4, c5, c6, c7, c8, c9⟩ := h.cells
  go_enter Tryd.func10, Tryd.ntmps10
  go_wp2
  go_ret
  exact ⟨rfl, rfl⟩
theorem rname_8 (w : World) : Calls Tryd.prog 11 #[.int .i64 8] w fun e w' => e = .returned (.string ⟨#[101, 110, 100, 112, 111, 105, 110, 116]⟩) ∧ w = w' := by
  go_enter Tryd.func11, Tryd.ntmps11
  go_wp2
  go_ret
  exact ⟨rfl, rfl⟩
theorem name_9 (w : World) (h : NamesAt w) : Calls Tryd.prog 10 #[.int .i64 9] w fun e w' => e = .returned (.string ⟨#[116, 104, 114, 101, 97, 100]⟩) ∧ w = w' := by
  obtain ⟨c0, c1, c2, c3, c4, c5, c6, c7, c8, c9⟩ := h.cells
  go_enter Tryd.func10, Tryd.ntmps10
  go_wp2
  go_ret
  exact ⟨rfl, rfl⟩
theorem rname_9 (w : World) : Calls Tryd.prog 11 #[.int .i64 9] w fun e w' => e = .returned (.string ⟨#[116, 104, 114, 101, 97, 100]⟩) ∧ w = w' := by
  go_enter Tryd.func11, Tryd.ntmps11
  go_wp2
  go_ret
  exact ⟨rfl, rfl⟩
theorem name_lo (k : Int) (w : World) (h : k < 0) : Calls Tryd.prog 10 #[.int .i64 k] w fun e w' => e = .returned (.string ⟨#[]⟩) ∧ w = w' := by
  go_enter Tryd.func10, Tryd.ntmps10
  go_wp2
  go_ret
  exact ⟨rfl, rfl⟩
theorem name_hi (k : Int) (w : World) (h : 10 ≤ k) : Calls Tryd.prog 10 #[.int .i64 k] w fun e w' => e = .returned (.string ⟨#[]⟩) ∧ w = w' := by
  go_enter Tryd.func10, Tryd.ntmps10
  go_wp2
  go_ret
  exact ⟨rfl, rfl⟩
theorem rname_lo (k : Int) (w : World) (h : k < 0) : Calls Tryd.prog 11 #[.int .i64 k] w fun e w' => e = .returned (.string ⟨#[]⟩) ∧ w = w' := by
  go_enter Tryd.func11, Tryd.ntmps11
  go_wp2
  go_ret
  exact ⟨rfl, rfl⟩
theorem rname_hi (k : Int) (w : World) (h : 10 ≤ k) : Calls Tryd.prog 11 #[.int .i64 k] w fun e w' => e = .returned (.string ⟨#[]⟩) ∧ w = w' := by
  go_enter Tryd.func11, Tryd.ntmps11
  go_wp2
  go_ret
  exact ⟨rfl, rfl⟩
end Go.Proofs.YtpapabkafkgagaaDoor
