/- The walks of package decode: forms of words. -/
import Derived.Test.YtofmcaagnhdecaaIter
namespace Go.Proofs.Ytofmcaagnhdecaa
open Go.RowKit Go.Shelf

theorem infoForm : (Try.prog.info? 57).map (·.size) = some 4 := by kernel_rfl
theorem address_any (p : Option Addr) (w : World) : Calls Try.prog 23 #[.pointer p] w fun e w' =>
    e = .returned (.agg #[.int .u64 0, .int .u64 4095, .pointer p, .pointer none]) ∧ w' = w.alloc (.cells #[.int .u64 0, .int .u64 4095, .pointer p, .pointer none] 57) := by
  go_enter Try.func23, Try.ntmps23
  go_wp2_with fail
  exact bodyPost_ret (results_cell_row rfl _ _ w.heap.size 57 #[.int .u64 0, .int .u64 4095, .pointer p, .pointer none] (0, 0) _ rfl (heap_alloc_new w _) Try.underlying57 rfl (by kernel_rfl)) rfl
    ⟨rfl, rfl⟩
theorem number_any (p : Option Addr) (a b : Int) (w : World) : Calls Try.prog 24 #[.pointer p, .int .u64 a, .int .u64 b] w fun e w' =>
    e = .returned (.agg #[.int .u64 a, .int .u64 b, .pointer p, .pointer none]) ∧ w' = w.alloc (.cells #[.int .u64 a, .int .u64 b, .pointer p, .pointer none] 57) := by
  go_enter Try.func24, Try.ntmps24
  go_wp2_with fail
  exact bodyPost_ret (results_cell_row rfl _ _ w.heap.size 57 #[.int .u64 a, .int .u64 b, .pointer p, .pointer none] (0, 0) _ rfl (heap_alloc_new w _) Try.underlying57 rfl (by kernel_rfl)) rfl
    ⟨rfl, rfl⟩
theorem wide_any (p : Option Addr) (w : World) : Calls Try.prog 25 #[.pointer p] w fun e w' =>
    e = .returned (.agg #[.int .u64 0, .int .u64 18446744073709551615, .pointer none, .pointer p]) ∧ w' = w.alloc (.cells #[.int .u64 0, .int .u64 18446744073709551615, .pointer none, .pointer p] 57) := by
  go_enter Try.func25, Try.ntmps25
  go_wp2_with fail
  exact bodyPost_ret (results_cell_row rfl _ _ w.heap.size 57 #[.int .u64 0, .int .u64 18446744073709551615, .pointer none, .pointer p] (0, 0) _ rfl (heap_alloc_new w _) Try.underlying57 rfl (by kernel_rfl)) rfl
    ⟨rfl, rfl⟩
/-- The rows of a message's words. -/
def msgCells (g : Nat) : Array Value := #[.int .u64 0, .int .u64 18446744073709551615, .pointer none, .pointer (some ⟨g, 8, none⟩), .int .u64 0, .int .u64 18446744073709551615, .pointer none, .pointer (some ⟨g, 9, none⟩),
  .int .u64 0, .int .u64 18446744073709551615, .pointer none, .pointer (some ⟨g, 10, none⟩), .int .u64 0, .int .u64 18446744073709551615, .pointer none, .pointer (some ⟨g, 11, none⟩)]
theorem msg_any (g : Nat) (w : World) : Calls Try.prog 26 #[.pointer (some ⟨g, 0, none⟩)] w fun e w' =>
    ∃ gl, e = .returned (.slice (some ⟨gl, 0, none⟩) 4 4) ∧ w.heap.size ≤ gl ∧ Blk w' gl 57 (msgCells g) ∧ Below w.heap.size w w' := by
  go_enter Try.func26, Try.ntmps26
  go_wp2
  have hK := (Below.refl w.heap.size w).drew
  go_region_held3 (fun w' => Below w.heap.size w w') (first | assumption | exact hK | exact hK.alloc hK.size _) ((go_at_call 25; refine (wide_any _ _).mono ?_; rintro e w2 ⟨rfl, hw2⟩; have hb : Below _ _ w2 := hw2 ▸ (Below.refl _ _).alloc (Nat.le_refl _) _; clear hw2; have hK := (show Below w.heap.size w _ by assumption).trans (hb.mono (show Below w.heap.size w _ by assumption).size)))
  rename_i w2 _ _ _
  go_wp2
  go_ret
  exact ⟨_, rfl, hK.size, Blk.new _ _ _, hK.alloc hK.size _⟩
end Go.Proofs.Ytofmcaagnhdecaa
