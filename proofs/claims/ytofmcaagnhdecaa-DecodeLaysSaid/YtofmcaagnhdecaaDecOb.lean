/- The walk of the reference's order, one text of letters each. -/
import Derived.Test.YtofmcaagnhdecaaDecR
import Derived.Deep.RegionHeld3
namespace Go.Proofs.Ytofmcaagnhdecaa
open Go.RowKit Go.Shelf
set_option maxRecDepth 100000 in
set_option maxHeartbeats 2000000 in
theorem rorder_ab (op : Int) (x : Nat → Int) (w : World) (ho1 : 2 ≤ op) (ho2 : op ≤ 23) (h0 : 0 ≤ x 0 ∧ x 0 ≤ 4096) (h1 : 0 ≤ x 1 ∧ x 1 ≤ 4096) : Calls Try.prog 21 #[.agg #[.int .u64 op, .int .u64 (x 0), .int .u64 (x 1), .int .u64 (x 2), .int .u64 (x 3), .int .u64 (x 4), .int .u64 (x 5)], .string ⟨#[97, 98]⟩] w fun e w' => e = .returned (.agg #[.int .i64 op, .int .i64 (x 0), .int .i64 0, .int .i64 0, .int .i64 (x 1), .int .i64 0, .int .i64 0, .int .u64 0, .int .u64 0, .int .u64 0, .int .u64 0, .int .u64 0]) ∧ Below w.heap.size w w' := by
  have hne : ¬ op = 1 := by omega
  have d1 : ((op : Int) == 1) = false := by simpa using hne
  clear hne
  go_enter Try.func21, Try.ntmps21
  go_wp2
  refine wp_loop_rounds 3 ?_
  rw [rounds_succ]
  go_wp2
  rw [rounds_succ]
  go_wp2
  rw [rounds_succ]
  go_wp2
  have h2 := (Blk.new (w.alloc (.cells #[.int .u64 op, .int .u64 (x 0), .int .u64 (x 1), .int .u64 (x 2), .int .u64 (x 3), .int .u64 (x 4), .int .u64 (x 5)] 25)) 29 #[.int .i64 op, .int .i64 (x 0), .int .i64 0, .int .i64 0, .int .i64 (x 1), .int .i64 0, .int .i64 0, .int .u64 0, .int .u64 0, .int .u64 0, .int .u64 0, .int .u64 0]).alloc (.cells #[.int .i64 op, .int .i64 (x 0), .int .i64 0, .int .i64 0, .int .i64 (x 1), .int .i64 0, .int .i64 0, .int .u64 0, .int .u64 0, .int .u64 0, .int .u64 0, .int .u64 0] 29)
  simp only [World.size_alloc] at h2
  exact bodyPost_ret (results_cell_row rfl _ _ (w.heap.size + 1) 29 _ (0, 0) _ rfl h2 Try.underlying29 rfl (by kernel_rfl)) rfl ⟨rfl, (((Below.refl _ w).alloc (Nat.le_refl _) _).alloc (by simp) _).alloc (by simp; omega) _⟩
set_option maxRecDepth 100000 in
set_option maxHeartbeats 2000000 in
theorem rorder_ag (op : Int) (x : Nat → Int) (w : World) (ho1 : 2 ≤ op) (ho2 : op ≤ 23) (h0 : 0 ≤ x 0 ∧ x 0 ≤ 4096) (h1 : 0 ≤ x 1 ∧ x 1 ≤ 4096) : Calls Try.prog 21 #[.agg #[.int .u64 op, .int .u64 (x 0), .int .u64 (x 1), .int .u64 (x 2), .int .u64 (x 3), .int .u64 (x 4), .int .u64 (x 5)], .string ⟨#[97, 103]⟩] w fun e w' => e = .returned (.agg #[.int .i64 op, .int .i64 (x 0), .int .i64 0, .int .i64 0, .int .i64 (x 1), .int .i64 0, .int .i64 0, .int .u64 0, .int .u64 0, .int .u64 0, .int .u64 0, .int .u64 0]) ∧ Below w.heap.size w w' := by
  have hne : ¬ op = 1 := by omega
  have d1 : ((op : Int) == 1) = false := by simpa using hne
  clear hne
  go_enter Try.func21, Try.ntmps21
  go_wp2
  refine wp_loop_rounds 3 ?_
  rw [rounds_succ]
  go_wp2
  rw [rounds_succ]
  go_wp2
  rw [rounds_succ]
  go_wp2
  have h2 := (Blk.new (w.alloc (.cells #[.int .u64 op, .int .u64 (x 0), .int .u64 (x 1), .int .u64 (x 2), .int .u64 (x 3), .int .u64 (x 4), .int .u64 (x 5)] 25)) 29 #[.int .i64 op, .int .i64 (x 0), .int .i64 0, .int .i64 0, .int .i64 (x 1), .int .i64 0, .int .i64 0, .int .u64 0, .int .u64 0, .int .u64 0, .int .u64 0, .int .u64 0]).alloc (.cells #[.int .i64 op, .int .i64 (x 0), .int .i64 0, .int .i64 0, .int .i64 (x 1), .int .i64 0, .int .i64 0, .int .u64 0, .int .u64 0, .int .u64 0, .int .u64 0, .int .u64 0] 29)
  simp only [World.size_alloc] at h2
  exact bodyPost_ret (results_cell_row rfl _ _ (w.heap.size + 1) 29 _ (0, 0) _ rfl h2 Try.underlying29 rfl (by kernel_rfl)) rfl ⟨rfl, (((Below.refl _ w).alloc (Nat.le_refl _) _).alloc (by simp) _).alloc (by simp; omega) _⟩
set_option maxRecDepth 100000 in
set_option maxHeartbeats 2000000 in
theorem rorder_agwwww (op : Int) (x : Nat → Int) (w : World) (ho1 : 2 ≤ op) (ho2 : op ≤ 23) (h0 : 0 ≤ x 0 ∧ x 0 ≤ 4096) (h1 : 0 ≤ x 1 ∧ x 1 ≤ 4096) : Calls Try.prog 21 #[.agg #[.int .u64 op, .int .u64 (x 0), .int .u64 (x 1), .int .u64 (x 2), .int .u64 (x 3), .int .u64 (x 4), .int .u64 (x 5)], .string ⟨#[97, 103, 119, 119, 119, 119]⟩] w fun e w' => e = .returned (.agg #[.int .i64 op, .int .i64 (x 0), .int .i64 0, .int .i64 0, .int .i64 (x 1), .int .i64 0, .int .i64 0, .int .u64 0, .int .u64 (x 2), .int .u64 (x 3), .int .u64 (x 4), .int .u64 (x 5)]) ∧ Below w.heap.size w w' := by
  have hne : ¬ op = 1 := by omega
  have d1 : ((op : Int) == 1) = false := by simpa using hne
  clear hne
  have qs : (((⟨#[97, 103, 119, 119, 119, 119]⟩ : ByteArray).extract 2 6).toList == [119, 119, 119, 119]) = true := by decide +kernel
  go_enter Try.func21, Try.ntmps21
  go_wp2
  refine wp_loop_rounds 7 ?_
  rw [rounds_succ]
  go_wp2
  rw [rounds_succ]
  go_wp2
  rw [rounds_succ]
  go_wp2
  rw [rounds_succ]
  go_wp2
  rw [rounds_succ]
  go_wp2
  rw [rounds_succ]
  go_wp2
  rw [rounds_succ]
  go_wp2
  have h2 := (Blk.new (w.alloc (.cells #[.int .u64 op, .int .u64 (x 0), .int .u64 (x 1), .int .u64 (x 2), .int .u64 (x 3), .int .u64 (x 4), .int .u64 (x 5)] 25)) 29 #[.int .i64 op, .int .i64 (x 0), .int .i64 0, .int .i64 0, .int .i64 (x 1), .int .i64 0, .int .i64 0, .int .u64 0, .int .u64 (x 2), .int .u64 (x 3), .int .u64 (x 4), .int .u64 (x 5)]).alloc (.cells #[.int .i64 op, .int .i64 (x 0), .int .i64 0, .int .i64 0, .int .i64 (x 1), .int .i64 0, .int .i64 0, .int .u64 0, .int .u64 (x 2), .int .u64 (x 3), .int .u64 (x 4), .int .u64 (x 5)] 29)
  simp only [World.size_alloc] at h2
  exact bodyPost_ret (results_cell_row rfl _ _ (w.heap.size + 1) 29 _ (0, 0) _ rfl h2 Try.underlying29 rfl (by kernel_rfl)) rfl ⟨rfl, (((Below.refl _ w).alloc (Nat.le_refl _) _).alloc (by simp) _).alloc (by simp; omega) _⟩
set_option maxRecDepth 100000 in
set_option maxHeartbeats 2000000 in
theorem rorder_ap (op : Int) (x : Nat → Int) (w : World) (ho1 : 2 ≤ op) (ho2 : op ≤ 23) (h0 : 0 ≤ x 0 ∧ x 0 ≤ 4096) (h1 : 0 ≤ x 1 ∧ x 1 ≤ 4096) : Calls Try.prog 21 #[.agg #[.int .u64 op, .int .u64 (x 0), .int .u64 (x 1), .int .u64 (x 2), .int .u64 (x 3), .int .u64 (x 4), .int .u64 (x 5)], .string ⟨#[97, 112]⟩] w fun e w' => e = .returned (.agg #[.int .i64 op, .int .i64 (x 0), .int .i64 0, .int .i64 0, .int .i64 (x 1), .int .i64 0, .int .i64 0, .int .u64 0, .int .u64 0, .int .u64 0, .int .u64 0, .int .u64 0]) ∧ Below w.heap.size w w' := by
  have hne : ¬ op = 1 := by omega
  have d1 : ((op : Int) == 1) = false := by simpa using hne
  clear hne
  go_enter Try.func21, Try.ntmps21
  go_wp2
  refine wp_loop_rounds 3 ?_
  rw [rounds_succ]
  go_wp2
  rw [rounds_succ]
  go_wp2
  rw [rounds_succ]
  go_wp2
  have h2 := (Blk.new (w.alloc (.cells #[.int .u64 op, .int .u64 (x 0), .int .u64 (x 1), .int .u64 (x 2), .int .u64 (x 3), .int .u64 (x 4), .int .u64 (x 5)] 25)) 29 #[.int .i64 op, .int .i64 (x 0), .int .i64 0, .int .i64 0, .int .i64 (x 1), .int .i64 0, .int .i64 0, .int .u64 0, .int .u64 0, .int .u64 0, .int .u64 0, .int .u64 0]).alloc (.cells #[.int .i64 op, .int .i64 (x 0), .int .i64 0, .int .i64 0, .int .i64 (x 1), .int .i64 0, .int .i64 0, .int .u64 0, .int .u64 0, .int .u64 0, .int .u64 0, .int .u64 0] 29)
  simp only [World.size_alloc] at h2
  exact bodyPost_ret (results_cell_row rfl _ _ (w.heap.size + 1) 29 _ (0, 0) _ rfl h2 Try.underlying29 rfl (by kernel_rfl)) rfl ⟨rfl, (((Below.refl _ w).alloc (Nat.le_refl _) _).alloc (by simp) _).alloc (by simp; omega) _⟩
set_option maxRecDepth 100000 in
set_option maxHeartbeats 2000000 in
theorem rorder_as (op : Int) (x : Nat → Int) (w : World) (ho1 : 2 ≤ op) (ho2 : op ≤ 23) (h0 : 0 ≤ x 0 ∧ x 0 ≤ 4096) (h1 : 0 ≤ x 1 ∧ x 1 ≤ 4096) : Calls Try.prog 21 #[.agg #[.int .u64 op, .int .u64 (x 0), .int .u64 (x 1), .int .u64 (x 2), .int .u64 (x 3), .int .u64 (x 4), .int .u64 (x 5)], .string ⟨#[97, 115]⟩] w fun e w' => e = .returned (.agg #[.int .i64 op, .int .i64 (x 0), .int .i64 0, .int .i64 0, .int .i64 (x 1), .int .i64 0, .int .i64 0, .int .u64 0, .int .u64 0, .int .u64 0, .int .u64 0, .int .u64 0]) ∧ Below w.heap.size w w' := by
  have hne : ¬ op = 1 := by omega
  have d1 : ((op : Int) == 1) = false := by simpa using hne
  clear hne
  go_enter Try.func21, Try.ntmps21
  go_wp2
  refine wp_loop_rounds 3 ?_
  rw [rounds_succ]
  go_wp2
  rw [rounds_succ]
  go_wp2
  rw [rounds_succ]
  go_wp2
  have h2 := (Blk.new (w.alloc (.cells #[.int .u64 op, .int .u64 (x 0), .int .u64 (x 1), .int .u64 (x 2), .int .u64 (x 3), .int .u64 (x 4), .int .u64 (x 5)] 25)) 29 #[.int .i64 op, .int .i64 (x 0), .int .i64 0, .int .i64 0, .int .i64 (x 1), .int .i64 0, .int .i64 0, .int .u64 0, .int .u64 0, .int .u64 0, .int .u64 0, .int .u64 0]).alloc (.cells #[.int .i64 op, .int .i64 (x 0), .int .i64 0, .int .i64 0, .int .i64 (x 1), .int .i64 0, .int .i64 0, .int .u64 0, .int .u64 0, .int .u64 0, .int .u64 0, .int .u64 0] 29)
  simp only [World.size_alloc] at h2
  exact bodyPost_ret (results_cell_row rfl _ _ (w.heap.size + 1) 29 _ (0, 0) _ rfl h2 Try.underlying29 rfl (by kernel_rfl)) rfl ⟨rfl, (((Below.refl _ w).alloc (Nat.le_refl _) _).alloc (by simp) _).alloc (by simp; omega) _⟩
set_option maxRecDepth 100000 in
set_option maxHeartbeats 2000000 in
theorem rorder_asa (op : Int) (x : Nat → Int) (w : World) (ho1 : 2 ≤ op) (ho2 : op ≤ 23) (h0 : 0 ≤ x 0 ∧ x 0 ≤ 4096) (h1 : 0 ≤ x 1 ∧ x 1 ≤ 4096) (h2 : 0 ≤ x 2 ∧ x 2 ≤ 4096) : Calls Try.prog 21 #[.agg #[.int .u64 op, .int .u64 (x 0), .int .u64 (x 1), .int .u64 (x 2), .int .u64 (x 3), .int .u64 (x 4), .int .u64 (x 5)], .string ⟨#[97, 115, 97]⟩] w fun e w' => e = .returned (.agg #[.int .i64 op, .int .i64 (x 0), .int .i64 (x 2), .int .i64 0, .int .i64 (x 1), .int .i64 0, .int .i64 0, .int .u64 0, .int .u64 0, .int .u64 0, .int .u64 0, .int .u64 0]) ∧ Below w.heap.size w w' := by
  have hne : ¬ op = 1 := by omega
  have d1 : ((op : Int) == 1) = false := by simpa using hne
  clear hne
  go_enter Try.func21, Try.ntmps21
  go_wp2
  refine wp_loop_rounds 4 ?_
  rw [rounds_succ]
  go_wp2
  rw [rounds_succ]
  go_wp2
  rw [rounds_succ]
  go_wp2
  rw [rounds_succ]
  go_wp2
  have h2 := (Blk.new (w.alloc (.cells #[.int .u64 op, .int .u64 (x 0), .int .u64 (x 1), .int .u64 (x 2), .int .u64 (x 3), .int .u64 (x 4), .int .u64 (x 5)] 25)) 29 #[.int .i64 op, .int .i64 (x 0), .int .i64 (x 2), .int .i64 0, .int .i64 (x 1), .int .i64 0, .int .i64 0, .int .u64 0, .int .u64 0, .int .u64 0, .int .u64 0, .int .u64 0]).alloc (.cells #[.int .i64 op, .int .i64 (x 0), .int .i64 (x 2), .int .i64 0, .int .i64 (x 1), .int .i64 0, .int .i64 0, .int .u64 0, .int .u64 0, .int .u64 0, .int .u64 0, .int .u64 0] 29)
  simp only [World.size_alloc] at h2
  exact bodyPost_ret (results_cell_row rfl _ _ (w.heap.size + 1) 29 _ (0, 0) _ rfl h2 Try.underlying29 rfl (by kernel_rfl)) rfl ⟨rfl, (((Below.refl _ w).alloc (Nat.le_refl _) _).alloc (by simp) _).alloc (by simp; omega) _⟩
set_option maxRecDepth 100000 in
set_option maxHeartbeats 2000000 in
theorem rorder_wwww (op : Int) (x : Nat → Int) (w : World) (ho1 : 2 ≤ op) (ho2 : op ≤ 23)  : Calls Try.prog 21 #[.agg #[.int .u64 op, .int .u64 (x 0), .int .u64 (x 1), .int .u64 (x 2), .int .u64 (x 3), .int .u64 (x 4), .int .u64 (x 5)], .string ⟨#[119, 119, 119, 119]⟩] w fun e w' => e = .returned (.agg #[.int .i64 op, .int .i64 0, .int .i64 0, .int .i64 0, .int .i64 0, .int .i64 0, .int .i64 0, .int .u64 0, .int .u64 (x 0), .int .u64 (x 1), .int .u64 (x 2), .int .u64 (x 3)]) ∧ Below w.heap.size w w' := by
  have hne : ¬ op = 1 := by omega
  have d1 : ((op : Int) == 1) = false := by simpa using hne
  clear hne
  have qs : (((⟨#[119, 119, 119, 119]⟩ : ByteArray).extract 0 4).toList == [119, 119, 119, 119]) = true := by decide +kernel
  go_enter Try.func21, Try.ntmps21
  go_wp2
  refine wp_loop_rounds 5 ?_
  rw [rounds_succ]
  go_wp2
  rw [rounds_succ]
  go_wp2
  rw [rounds_succ]
  go_wp2
  rw [rounds_succ]
  go_wp2
  rw [rounds_succ]
  go_wp2
  have h2 := (Blk.new (w.alloc (.cells #[.int .u64 op, .int .u64 (x 0), .int .u64 (x 1), .int .u64 (x 2), .int .u64 (x 3), .int .u64 (x 4), .int .u64 (x 5)] 25)) 29 #[.int .i64 op, .int .i64 0, .int .i64 0, .int .i64 0, .int .i64 0, .int .i64 0, .int .i64 0, .int .u64 0, .int .u64 (x 0), .int .u64 (x 1), .int .u64 (x 2), .int .u64 (x 3)]).alloc (.cells #[.int .i64 op, .int .i64 0, .int .i64 0, .int .i64 0, .int .i64 0, .int .i64 0, .int .i64 0, .int .u64 0, .int .u64 (x 0), .int .u64 (x 1), .int .u64 (x 2), .int .u64 (x 3)] 29)
  simp only [World.size_alloc] at h2
  exact bodyPost_ret (results_cell_row rfl _ _ (w.heap.size + 1) 29 _ (0, 0) _ rfl h2 Try.underlying29 rfl (by kernel_rfl)) rfl ⟨rfl, (((Below.refl _ w).alloc (Nat.le_refl _) _).alloc (by simp) _).alloc (by simp; omega) _⟩
end Go.Proofs.Ytofmcaagnhdecaa
