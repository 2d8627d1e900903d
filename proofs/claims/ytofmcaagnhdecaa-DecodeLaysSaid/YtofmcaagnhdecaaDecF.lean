/- decode.forms of what is no operation: nil and false. -/
import Derived.Test.YtofmcaagnhdecaaDecC
namespace Go.Proofs.Ytofmcaagnhdecaa
open Go.RowKit Go.Shelf
set_option maxRecDepth 100000 in
set_option maxHeartbeats 4000000 in
theorem forms_none (op : Int) (g gc : Nat) (w : World) (hnone : formL op = none) : Calls Try.prog 14 #[.int .u64 op, .pointer (some ⟨g, 0, none⟩), .pointer (some ⟨gc, 0, none⟩)] w fun e w' => e = .returned (.tuple #[.slice none 0 0, .bool false]) ∧ Below w.heap.size w w' := by
  have h1 : ¬ op = 1 := by rintro rfl; exact absurd hnone (by decide)
  have h2 : ¬ op = 2 := by rintro rfl; exact absurd hnone (by decide)
  have h3 : ¬ op = 3 := by rintro rfl; exact absurd hnone (by decide)
  have h4 : ¬ op = 4 := by rintro rfl; exact absurd hnone (by decide)
  have h5 : ¬ op = 5 := by rintro rfl; exact absurd hnone (by decide)
  have h6 : ¬ op = 6 := by rintro rfl; exact absurd hnone (by decide)
  have h7 : ¬ op = 7 := by rintro rfl; exact absurd hnone (by decide)
  have h8 : ¬ op = 8 := by rintro rfl; exact absurd hnone (by decide)
  have h9 : ¬ op = 9 := by rintro rfl; exact absurd hnone (by decide)
  have h10 : ¬ op = 10 := by rintro rfl; exact absurd hnone (by decide)
  have h11 : ¬ op = 11 := by rintro rfl; exact absurd hnone (by decide)
  have h12 : ¬ op = 12 := by rintro rfl; exact absurd hnone (by decide)
  have h13 : ¬ op = 13 := by rintro rfl; exact absurd hnone (by decide)
  have h14 : ¬ op = 14 := by rintro rfl; exact absurd hnone (by decide)
  have h15 : ¬ op = 15 := by rintro rfl; exact absurd hnone (by decide)
  have h16 : ¬ op = 16 := by rintro rfl; exact absurd hnone (by decide)
  have h17 : ¬ op = 17 := by rintro rfl; exact absurd hnone (by decide)
  have h18 : ¬ op = 18 := by rintro rfl; exact absurd hnone (by decide)
  have h19 : ¬ op = 19 := by rintro rfl; exact absurd hnone (by decide)
  have h20 : ¬ op = 20 := by rintro rfl; exact absurd hnone (by decide)
  have h21 : ¬ op = 21 := by rintro rfl; exact absurd hnone (by decide)
  have h22 : ¬ op = 22 := by rintro rfl; exact absurd hnone (by decide)
  have h23 : ¬ op = 23 := by rintro rfl; exact absurd hnone (by decide)
  clear hnone
  go_enter Try.func14, Try.ntmps14
  go_upto_region 1 with fail
  have hK := (Below.refl w.heap.size w).drew
  go_cut [8, 9] (fun s8 s9 wx => ∃ ga gb, s8 = .pointer (some ⟨ga, 0, none⟩) ∧ s9 = .pointer (some ⟨gb, 0, none⟩) ∧ w.heap.size ≤ ga ∧ w.heap.size ≤ gb ∧ Blk wx ga 57 (addrCells g 1) ∧ Blk wx gb 57 (addrCells g 2) ∧ Below w.heap.size w wx)
  case first =>
    go_region_held3 (fun _ => True) (trivial) ((go_at_call 23; refine (address_any _ _).mono ?_; rintro e w2 ⟨rfl, rfl⟩))
    all_goals
      go_wp2
      go_meet
      refine ⟨_, _, rfl, rfl, ?_, ?_, ?_, ?_, ?_⟩
      · omega
      · omega
      · refine Blk.drew ?_
        repeat (first | (with_reducible exact blk_at (by first | rfl | omega | (simp only [World.size_alloc]; done) | (simp only [World.size_alloc]; omega))) | with_reducible refine Blk.alloc ?_ _)
      · refine Blk.drew ?_
        repeat (first | (with_reducible exact blk_at (by first | rfl | omega | (simp only [World.size_alloc]; done) | (simp only [World.size_alloc]; omega))) | with_reducible refine Blk.alloc ?_ _)
      · refine Below.drew ?_
        repeat refine Below.alloc ?_ (by first | exact Nat.le_refl _ | (simp only [World.size_alloc]; omega)) _
        exact Below.refl _ _
  case rest =>
    obtain ⟨ga, gb, rfl, rfl, la, lb, hA, hB, hK2⟩ := hcut
    clear hA hB la lb
    go_wp2_with fail
    go_ret2
    exact ⟨rfl, hK2⟩
end Go.Proofs.Ytofmcaagnhdecaa
