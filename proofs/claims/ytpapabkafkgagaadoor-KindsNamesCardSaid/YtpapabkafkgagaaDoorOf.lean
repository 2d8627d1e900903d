/- The walks of kinds.Of and of the reference's: the ten names, and no name. -/
import Derived.Test.YtpapabkafkgagaaDoorKinds
import Derived.Laws.Tables
import Derived.Laws.Rows
namespace Go.Proofs.YtpapabkafkgagaaDoor
open Go.RowKit
theorem namesInfo : (Tryd.prog.info? 31).map (·.size) = some namesA.size := by kernel_rfl
theorem namesAt_0 (w : World) : (Instr.index 31 (.agg namesA) (.int .i64 0)).run Tryd.prog w = .ok (.string ⟨#[110, 111, 110, 101]⟩) w := by kernel_rfl
theorem namesAt_1 (w : World) : (Instr.index 31 (.agg namesA) (.int .i64 1)).run Tryd.prog w = .ok (.string ⟨#[117, 110, 116, 121, 112, 101, 100]⟩) w := by kernel_rfl
theorem namesAt_2 (w : World) : (Instr.index 31 (.agg namesA) (.int .i64 2)).run Tryd.prog w = .ok (.string ⟨#[110, 111, 100, 101]⟩) w := by kernel_rfl
theorem namesAt_3 (w : World) : (Instr.index 31 (.agg namesA) (.int .i64 3)).run Tryd.prog w = .ok (.string ⟨#[102, 114, 97, 109, 101]⟩) w := by kernel_rfl
theorem namesAt_4 (w : World) : (Instr.index 31 (.agg namesA) (.int .i64 4)).run Tryd.prog w = .ok (.string ⟨#[116, 97, 98, 108, 101]⟩) w := by kernel_rfl
theorem namesAt_5 (w : World) : (Instr.index 31 (.agg namesA) (.int .i64 5)).run Tryd.prog w = .ok (.string ⟨#[114, 111, 111, 116]⟩) w := by kernel_rfl
theorem namesAt_6 (w : World) : (Instr.index 31 (.agg namesA) (.int .i64 6)).run Tryd.prog w = .ok (.string ⟨#[112, 111, 111, 108]⟩) w := by kernel_rfl
theorem namesAt_7 (w : World) : (Instr.index 31 (.agg namesA) (.int .i64 7)).run Tryd.prog w = .ok (.string ⟨#[99, 111, 110, 116, 114, 111, 108]⟩) w := by kernel_rfl
theorem namesAt_8 (w : World) : (Instr.index 31 (.agg namesA) (.int .i64 8)).run Tryd.prog w = .ok (.string ⟨#[101, 110, 100, 112, 111, 105, 110, 116]⟩) w := by kernel_rfl
theorem namesAt_9 (w : World) : (Instr.index 31 (.agg namesA) (.int .i64 9)).run Tryd.prog w = .ok (.string ⟨#[116, 104, 114, 101, 97, 100]⟩) w := by kernel_rfl
attribute [local irreducible] namesA
def noName (s : ByteArray) : Prop := ∀ t ∈ namesL, (t == s.toList) = false
set_option maxHeartbeats 2000000 in
theorem of_none (s : ByteArray) (w : World) (hN : NamesAt w) (h : noName s) : Calls Tryd.prog 13 #[.string s] w fun e w' => e = .returned (.tuple #[.int .i64 0, .bool false]) ∧ w = w' := by
  obtain ⟨T, fr, hN⟩ := hN
  have h0 : ([110, 111, 110, 101] == s.toList) = false := h [110, 111, 110, 101] (by simp [namesL])
  have h1 : ([117, 110, 116, 121, 112, 101, 100] == s.toList) = false := h [117, 110, 116, 121, 112, 101, 100] (by simp [namesL])
  have h2 : ([110, 111, 100, 101] == s.toList) = false := h [110, 111, 100, 101] (by simp [namesL])
  have h3 : ([102, 114, 97, 109, 101] == s.toList) = false := h [102, 114, 97, 109, 101] (by simp [namesL])
  have h4 : ([116, 97, 98, 108, 101] == s.toList) = false := h [116, 97, 98, 108, 101] (by simp [namesL])
  have h5 : ([114, 111, 111, 116] == s.toList) = false := h [114, 111, 111, 116] (by simp [namesL])
  have h6 : ([112, 111, 111, 108] == s.toList) = false := h [112, 111, 111, 108] (by simp [namesL])
  have h7 : ([99, 111, 110, 116, 114, 111, 108] == s.toList) = false := h [99, 111, 110, 116, 114, 111, 108] (by simp [namesL])
  have h8 : ([101, 110, 100, 112, 111, 105, 110, 116] == s.toList) = false := h [101, 110, 100, 112, 111, 105, 110, 116] (by simp [namesL])
  have h9 : ([116, 104, 114, 101, 97, 100] == s.toList) = false := h [116, 104, 114, 101, 97, 100] (by simp [namesL])
  clear h
  have i0 := namesAt_0 w
  have i1 := namesAt_1 w
  have i2 := namesAt_2 w
  have i3 := namesAt_3 w
  have i4 := namesAt_4 w
  have i5 := namesAt_5 w
  have i6 := namesAt_6 w
  have i7 := namesAt_7 w
  have i8 := namesAt_8 w
  have i9 := namesAt_9 w
  go_enter Tryd.func13, Tryd.ntmps13
  go_wp2
  go_step3
  go_wp2
  go_step3
  go_wp2_with (refine wpList_load_row rfl 31 _ rfl 0 rfl T _ _ _ hN Tryd.underlying31 rfl namesInfo ?_)
  refine wp_loop_rounds 11 ?_
  rw [rounds_succ]
  go_wp2
  rw [rounds_succ]
  go_wp2
  rw [rounds_succ]
  go_wp2
  rw [rounds_succ]
  go_wp2
  rw [rounds_succ]
  go_wp2
  rw [rounds_succ]
  go_wp2
  rw [rounds_succ]
  go_wp2
  rw [rounds_succ]
  go_wp2
  rw [rounds_succ]
  go_wp2
  rw [rounds_succ]
  go_wp2
  rw [rounds_succ]
  go_wp2
  rw [Exit.noGoto_ret]
  go_ret2
  exact ⟨rfl, rfl⟩
set_option maxHeartbeats 2000000 in
theorem of_0 (w : World) (hN : NamesAt w) : Calls Tryd.prog 13 #[.string ⟨#[110, 111, 110, 101]⟩] w fun e w' => e = .returned (.tuple #[.int .i64 0, .bool true]) ∧ w = w' := by
  obtain ⟨T, fr, hN⟩ := hN
  have i0 := namesAt_0 w
  have i1 := namesAt_1 w
  have i2 := namesAt_2 w
  have i3 := namesAt_3 w
  have i4 := namesAt_4 w
  have i5 := namesAt_5 w
  have i6 := namesAt_6 w
  have i7 := namesAt_7 w
  have i8 := namesAt_8 w
  have i9 := namesAt_9 w
  go_enter Tryd.func13, Tryd.ntmps13
  go_wp2
  go_step3
  go_wp2
  go_step3
  go_wp2_with (refine wpList_load_row rfl 31 _ rfl 0 rfl T _ _ _ hN Tryd.underlying31 rfl namesInfo ?_)
  refine wp_loop_rounds 11 ?_
  rw [rounds_succ]
  go_wp2
  rw [Exit.noGoto_ret]
  go_ret2
  exact ⟨rfl, rfl⟩
set_option maxHeartbeats 2000000 in
theorem of_1 (w : World) (hN : NamesAt w) : Calls Tryd.prog 13 #[.string ⟨#[117, 110, 116, 121, 112, 101, 100]⟩] w fun e w' => e = .returned (.tuple #[.int .i64 1, .bool true]) ∧ w = w' := by
  obtain ⟨T, fr, hN⟩ := hN
  have i0 := namesAt_0 w
  have i1 := namesAt_1 w
  have i2 := namesAt_2 w
  have i3 := namesAt_3 w
  have i4 := namesAt_4 w
  have i5 := namesAt_5 w
  have i6 := namesAt_6 w
  have i7 := namesAt_7 w
  have i8 := namesAt_8 w
  have i9 := namesAt_9 w
  go_enter Tryd.func13, Tryd.ntmps13
  go_wp2
  go_step3
  go_wp2
  go_step3
  go_wp2_with (refine wpList_load_row rfl 31 _ rfl 0 rfl T _ _ _ hN Tryd.underlying31 rfl namesInfo ?_)
  refine wp_loop_rounds 11 ?_
  rw [rounds_succ]
  go_wp2
  rw [rounds_succ]
  go_wp2
  rw [Exit.noGoto_ret]
  go_ret2
  exact ⟨rfl, rfl⟩
set_option maxHeartbeats 2000000 in
theorem of_2 (w : World) (hN : NamesAt w) : Calls Tryd.prog 13 #[.string ⟨#[110, 111, 100, 101]⟩] w fun e w' => e = .returned (.tuple #[.int .i64 2, .bool true]) ∧ w = w' := by
  obtain ⟨T, fr, hN⟩ := hN
  have i0 := namesAt_0 w
  have i1 := namesAt_1 w
  have i2 := namesAt_2 w
  have i3 := namesAt_3 w
  have i4 := namesAt_4 w
  have i5 := namesAt_5 w
  have i6 := namesAt_6 w
  have i7 := namesAt_7 w
  have i8 := namesAt_8 w
  have i9 := namesAt_9 w
  go_enter Tryd.func13, Tryd.ntmps13
  go_wp2
  go_step3
  go_wp2
  go_step3
  go_wp2_with (refine wpList_load_row rfl 31 _ rfl 0 rfl T _ _ _ hN Tryd.underlying31 rfl namesInfo ?_)
  refine wp_loop_rounds 11 ?_
  rw [rounds_succ]
  go_wp2
  rw [rounds_succ]
  go_wp2
  rw [rounds_succ]
  go_wp2
  rw [Exit.noGoto_ret]
  go_ret2
  exact ⟨rfl, rfl⟩
set_option maxHeartbeats 2000000 in
theorem of_3 (w : World) (hN : NamesAt w) : Calls Tryd.prog 13 #[.string ⟨#[102, 114, 97, 109, 101]⟩] w fun e w' => e = .returned (.tuple #[.int .i64 3, .bool true]) ∧ w = w' := by
  obtain ⟨T, fr, hN⟩ := hN
  have i0 := namesAt_0 w
  have i1 := namesAt_1 w
  have i2 := namesAt_2 w
  have i3 := namesAt_3 w
  have i4 := namesAt_4 w
  have i5 := namesAt_5 w
  have i6 := namesAt_6 w
  have i7 := namesAt_7 w
  have i8 := namesAt_8 w
  have i9 := namesAt_9 w
  go_enter Tryd.func13, Tryd.ntmps13
  go_wp2
  go_step3
  go_wp2
  go_step3
  go_wp2_with (refine wpList_load_row rfl 31 _ rfl 0 rfl T _ _ _ hN Tryd.underlying31 rfl namesInfo ?_)
  refine wp_loop_rounds 11 ?_
  rw [rounds_succ]
  go_wp2
  rw [rounds_succ]
  go_wp2
  rw [rounds_succ]
  go_wp2
  rw [rounds_succ]
  go_wp2
  rw [Exit.noGoto_ret]
  go_ret2
  exact ⟨rfl, rfl⟩
set_option maxHeartbeats 2000000 in
theorem of_4 (w : World) (hN : NamesAt w) : Calls Tryd.prog 13 #[.string ⟨#[116, 97, 98, 108, 101]⟩] w fun e w' => e = .returned (.tuple #[.int .i64 4, .bool true]) ∧ w = w' := by
  obtain ⟨T, fr, hN⟩ := hN
  have i0 := namesAt_0 w
  have i1 := namesAt_1 w
  have i2 := namesAt_2 w
  have i3 := namesAt_3 w
  have i4 := namesAt_4 w
  have i5 := namesAt_5 w
  have i6 := namesAt_6 w
  have i7 := namesAt_7 w
  have i8 := namesAt_8 w
  have i9 := namesAt_9 w
  go_enter Tryd.func13, Tryd.ntmps13
  go_wp2
  go_step3
  go_wp2
  go_step3
  go_wp2_with (refine wpList_load_row rfl 31 _ rfl 0 rfl T _ _ _ hN Tryd.underlying31 rfl namesInfo ?_)
  refine wp_loop_rounds 11 ?_
  rw [rounds_succ]
  go_wp2
  rw [rounds_succ]
  go_wp2
  rw [rounds_succ]
  go_wp2
  rw [rounds_succ]
  go_wp2
  rw [rounds_succ]
  go_wp2
  rw [Exit.noGoto_ret]
  go_ret2
  exact ⟨rfl, rfl⟩
set_option maxHeartbeats 2000000 in
theorem of_5 (w : World) (hN : NamesAt w) : Calls Tryd.prog 13 #[.string ⟨#[114, 111, 111, 116]⟩] w fun e w' => e = .returned (.tuple #[.int .i64 5, .bool true]) ∧ w = w' := by
  obtain ⟨T, fr, hN⟩ := hN
  have i0 := namesAt_0 w
  have i1 := namesAt_1 w
  have i2 := namesAt_2 w
  have i3 := namesAt_3 w
  have i4 := namesAt_4 w
  have i5 := namesAt_5 w
  have i6 := namesAt_6 w
  have i7 := namesAt_7 w
  have i8 := namesAt_8 w
  have i9 := namesAt_9 w
  go_enter Tryd.func13, Tryd.ntmps13
  go_wp2
  go_step3
  go_wp2
  go_step3
  go_wp2_with (refine wpList_load_row rfl 31 _ rfl 0 rfl T _ _ _ hN Tryd.underlying31 rfl namesInfo ?_)
  refine wp_loop_rounds 11 ?_
  rw [rounds_succ]
  go_wp2
  rw [rounds_succ]
  go_wp2
  rw [rounds_succ]
  go_wp2
  rw [rounds_succ]
  go_wp2
  rw [rounds_succ]
  go_wp2
  rw [rounds_succ]
  go_wp2
  rw [Exit.noGoto_ret]
  go_ret2
  exact ⟨rfl, rfl⟩
set_option maxHeartbeats 2000000 in
theorem of_6 (w : World) (hN : NamesAt w) : Calls Tryd.prog 13 #[.string ⟨#[112, 111, 111, 108]⟩] w fun e w' => e = .returned (.tuple #[.int .i64 6, .bool true]) ∧ w = w' := by
  obtain ⟨T, fr, hN⟩ := hN
  have i0 := namesAt_0 w
  have i1 := namesAt_1 w
  have i2 := namesAt_2 w
  have i3 := namesAt_3 w
  have i4 := namesAt_4 w
  have i5 := namesAt_5 w
  have i6 := namesAt_6 w
  have i7 := namesAt_7 w
  have i8 := namesAt_8 w
  have i9 := namesAt_9 w
  go_enter Tryd.func13, Tryd.ntmps13
  go_wp2
  go_step3
  go_wp2
  go_step3
  go_wp2_with (refine wpList_load_row rfl 31 _ rfl 0 rfl T _ _ _ hN Tryd.underlying31 rfl namesInfo ?_)
  refine wp_loop_rounds 11 ?_
  rw [rounds_succ]
  go_wp2
  rw [rounds_succ]
  go_wp2
  rw [rounds_succ]
  go_wp2
  rw [rounds_succ]
  go_wp2
  rw [rounds_succ]
  go_wp2
  rw [rounds_succ]
  go_wp2
  rw [rounds_succ]
  go_wp2
  rw [Exit.noGoto_ret]
  go_ret2
  exact ⟨rfl, rfl⟩
set_option maxHeartbeats 2000000 in
theorem of_7 (w : World) (hN : NamesAt w) : Calls Tryd.prog 13 #[.string ⟨#[99, 111, 110, 116, 114, 111, 108]⟩] w fun e w' => e = .returned (.tuple #[.int .i64 7, .bool true]) ∧ w = w' := by
  obtain ⟨T, fr, hN⟩ := hN
  have i0 := namesAt_0 w
  have i1 := namesAt_1 w
  have i2 := namesAt_2 w
  have i3 := namesAt_3 w
  have i4 := namesAt_4 w
  have i5 := namesAt_5 w
  have i6 := namesAt_6 w
  have i7 := namesAt_7 w
  have i8 := namesAt_8 w
  have i9 := namesAt_9 w
  go_enter Tryd.func13, Tryd.ntmps13
  go_wp2
  go_step3
  go_wp2
  go_step3
  go_wp2_with (refine wpList_load_row rfl 31 _ rfl 0 rfl T _ _ _ hN Tryd.underlying31 rfl namesInfo ?_)
  refine wp_loop_rounds 11 ?_
  rw [rounds_succ]
  go_wp2
  rw [rounds_succ]
  go_wp2
  rw [rounds_succ]
  go_wp2
  rw [rounds_succ]
  go_wp2
  rw [rounds_succ]
  go_wp2
  rw [rounds_succ]
  go_wp2
  rw [rounds_succ]
  go_wp2
  rw [rounds_succ]
  go_wp2
  rw [Exit.noGoto_ret]
  go_ret2
  exact ⟨rfl, rfl⟩
set_option maxHeartbeats 2000000 in
theorem of_8 (w : World) (hN : NamesAt w) : Calls Tryd.prog 13 #[.string ⟨#[101, 110, 100, 112, 111, 105, 110, 116]⟩] w fun e w' => e = .returned (.tuple #[.int .i64 8, .bool true]) ∧ w = w' := by
  obtain ⟨T, fr, hN⟩ := hN
  have i0 := namesAt_0 w
  have i1 := namesAt_1 w
  have i2 := namesAt_2 w
  have i3 := namesAt_3 w
  have i4 := namesAt_4 w
  have i5 := namesAt_5 w
  have i6 := namesAt_6 w
  have i7 := namesAt_7 w
  have i8 := namesAt_8 w
  have i9 := namesAt_9 w
  go_enter Tryd.func13, Tryd.ntmps13
  go_wp2
  go_step3
  go_wp2
  go_step3
  go_wp2_with (refine wpList_load_row rfl 31 _ rfl 0 rfl T _ _ _ hN Tryd.underlying31 rfl namesInfo ?_)
  refine wp_loop_rounds 11 ?_
  rw [rounds_succ]
  go_wp2
  rw [rounds_succ]
  go_wp2
  rw [rounds_succ]
  go_wp2
  rw [rounds_succ]
  go_wp2
  rw [rounds_succ]
  go_wp2
  rw [rounds_succ]
  go_wp2
  rw [rounds_succ]
  go_wp2
  rw [rounds_succ]
  go_wp2
  rw [rounds_succ]
  go_wp2
  rw [Exit.noGoto_ret]
  go_ret2
  exact ⟨rfl, rfl⟩
set_option maxHeartbeats 2000000 in
theorem of_9 (w : World) (hN : NamesAt w) : Calls Tryd.prog 13 #[.string ⟨#[116, 104, 114, 101, 97, 100]⟩] w fun e w' => e = .returned (.tuple #[.int .i64 9, .bool true]) ∧ w = w' := by
  obtain ⟨T, fr, hN⟩ := hN
  have i0 := namesAt_0 w
  have i1 := namesAt_1 w
  have i2 := namesAt_2 w
  have i3 := namesAt_3 w
  have i4 := namesAt_4 w
  have i5 := namesAt_5 w
  have i6 := namesAt_6 w
  have i7 := namesAt_7 w
  have i8 := namesAt_8 w
  have i9 := namesAt_9 w
  go_enter Tryd.func13, Tryd.ntmps13
  go_wp2
  go_step3
  go_wp2
  go_step3
  go_wp2_with (refine wpList_load_row rfl 31 _ rfl 0 rfl T _ _ _ hN Tryd.underlying31 rfl namesInfo ?_)
  refine wp_loop_rounds 11 ?_
  rw [rounds_succ]
  go_wp2
  rw [rounds_succ]
  go_wp2
  rw [rounds_succ]
  go_wp2
  rw [rounds_succ]
  go_wp2
  rw [rounds_succ]
  go_wp2
  rw [rounds_succ]
  go_wp2
  rw [rounds_succ]
  go_wp2
  rw [rounds_succ]
  go_wp2
  rw [rounds_succ]
  go_wp2
  rw [rounds_succ]
  go_wp2
  rw [Exit.noGoto_ret]
  go_ret2
  exact ⟨rfl, rfl⟩
end Go.Proofs.YtpapabkafkgagaaDoor
