/- The walks of the statements of chapter 4: each returns true. -/
import Derived.Test.YtdmpdfogilcjnaaRef4
import Derived.Test.YtdmpdfogilcjnaaLaw0
import Derived.Deep.RegionHeld3
namespace Go.Proofs.Ytdmpdfogilcjnaa
open Go.RowKit

theorem awake4 (w : World) :
    Calls Try.prog 20 #[] w fun e w' => e = .returned (.bool true) ∧ Below w.heap.size w w' := by
  have e : splitA 32767 = .agg #[.int .i64 7, .int .i64 7, .int .i64 7, .int .i64 63] := rfl
  go_enter Try.func20, Try.ntmps20
  go_wp2_with fail
  refine (split_yes 32767 _ (by omega) (by omega)).mono ?_
  rintro e w1 ⟨rfl, hb1⟩
  rw [e]
  go_wp2_with fail
  refine (page_yes 32767 _ (by omega) (by omega)).mono ?_
  rintro e w' ⟨rfl, rfl⟩
  go_wp2_with fail
  go_ret
  exact ⟨rfl, hb1.alloc hb1.size _⟩
theorem law_VaddrSplits (x : Int) (hx : (Lit.int .u64 x).wf = true) (w : World) :
    Calls Try.prog 3 #[.int .u64 x] w fun e w' => e = .returned (.bool true) ∧ Below w.heap.size w w' := by
  obtain ⟨h0, h64⟩ := wfu hx
  clear hx
  by_cases h : x < 32768
  · go_enter Try.func3, Try.ntmps3
    go_wp2_with fail
    refine (split_yes x _ h0 h).mono ?_
    rintro e w1 ⟨rfl, hb1⟩
    unfold splitA
    go_wp2_with fail
    refine (rsplit_yes x _ h0 h).mono ?_
    rintro e w2 ⟨rfl, hb2⟩
    unfold splitA
    obtain ⟨hz2, hk2⟩ := blk_after hb2
    obtain ⟨c0, c1, c2, c3⟩ := hk2.c4
    have hB2 : Below w.heap.size w w2 := (hb1.alloc hb1.size _).trans (hb2.mono (by have := hb1.size; simp; omega))
    clear hb2 hk2
    go_wp2_with fail
    refine (page_yes x _ h0 h).mono ?_
    rintro e w' ⟨rfl, rfl⟩
    go_wp2_with fail
    refine (rpage_yes x _ h0 h).mono ?_
    rintro e w' ⟨rfl, rfl⟩
    go_wp2_with (first | (go_at_call 19; refine (num_any _ _).mono ?_; rintro e w' ⟨rfl, rfl⟩) | (go_at_call 20; refine (awake4 _).mono ?_; rintro e w3 ⟨rfl, hb3⟩))
    go_ret
    exact ⟨rfl, (hB2.alloc hB2.size _).trans (hb3.mono (by have := hB2.size; simp; omega))⟩
  · have h' : 32768 ≤ x := by omega
    clear h
    go_enter Try.func3, Try.ntmps3
    go_wp2_with fail
    refine (split_no x _ h').mono ?_
    rintro e w1 ⟨rfl, hb1⟩
    go_wp2_with fail
    refine (rsplit_no x _ h').mono ?_
    rintro e w2 ⟨rfl, hb2⟩
    obtain ⟨hz2, hk2⟩ := blk_after hb2
    obtain ⟨c0, c1, c2, c3⟩ := hk2.c4
    have hB2 : Below w.heap.size w w2 := (hb1.alloc hb1.size _).trans (hb2.mono (by have := hb1.size; simp; omega))
    clear hb2 hk2
    go_wp2_with fail
    refine (page_no x _ h').mono ?_
    rintro e w' ⟨rfl, rfl⟩
    go_wp2_with fail
    refine (rpage_no x _ h').mono ?_
    rintro e w' ⟨rfl, rfl⟩
    go_wp2_with (first | (go_at_call 19; refine (num_any _ _).mono ?_; rintro e w' ⟨rfl, rfl⟩) | (go_at_call 20; refine (awake4 _).mono ?_; rintro e w3 ⟨rfl, hb3⟩))
    go_ret
    exact ⟨rfl, (hB2.alloc hB2.size _).trans (hb3.mono (by have := hB2.size; simp; omega))⟩

theorem splitE (x : Int) (_h : 0 ≤ x ∧ x < 32768) : joinV (x / 4096) (x / 512 % 8) (x / 64 % 8) (x % 64) = x ∧ joinE (x / 4096) (x / 512 % 8) (x / 64 % 8) (x % 64) = 0 := by
  have h : partsOk (x / 4096) (x / 512 % 8) (x / 64 % 8) (x % 64) := by unfold partsOk; omega
  unfold joinV joinE
  rw [if_pos h, if_pos h]
  exact ⟨by omega, rfl⟩
theorem baseE_ok {p : Int} (h : 0 ≤ p ∧ p < 512) : baseV p = p * 64 ∧ baseE p = 0 := by
  unfold baseV baseE
  rw [if_pos h, if_pos h]
  exact ⟨rfl, rfl⟩
set_option maxHeartbeats 4000000 in
theorem law_VaddrLevels (p : Int) (_hp : (Lit.int .i64 p).wf = true) (w : World) :
    Calls Try.prog 12 #[.int .i64 p] w fun e w' => e = .returned (.bool true) ∧ Below w.heap.size w w' := by
  have hq := low_bd p (n := 512) (by omega)
  have hlow := fun W => low_any p 512 W (by omega) (by omega)
  generalize lowV p 512 = q at hq hlow
  obtain ⟨q0, q1⟩ := hq
  obtain ⟨B1, B2⟩ := baseE_ok ⟨q0, q1⟩
  have I1 : Hid (idxV q 1 = q / 64) := by unfold Hid idxV; rw [if_pos ⟨q0, q1⟩]; rfl
  have I2 : Hid (idxV q 2 = q / 8 % 8) := by unfold Hid idxV; rw [if_pos ⟨q0, q1⟩]; rfl
  have I3 : Hid (idxV q 3 = q % 8) := by unfold Hid idxV; rw [if_pos ⟨q0, q1⟩]; rfl
  have HB := hide (And.intro B1 B2)
  have HL := hide hlow
  clear B1 B2 hlow
  have S : Hid (splitA (q * 64) = .agg #[.int .i64 (q / 64), .int .i64 (q / 8 % 8), .int .i64 (q % 8), .int .i64 0]) := by
    unfold Hid splitA
    rw [show q * 64 / 4096 = q / 64 by omega, show q * 64 / 512 % 8 = q / 8 % 8 by omega, show q * 64 / 64 % 8 = q % 8 by omega, show q * 64 % 64 = 0 by omega]
  have t : (64 * (q / 64) + 8 * (q / 8 % 8) + q % 8 == q) = true := beq_iff_eq.2 (by omega)
  go_enter Try.func12, Try.ntmps12
  go_wp2_with fail
  refine (HL.out _).mono ?_
  rintro e w' ⟨rfl, rfl⟩
  go_wp2_with fail
  refine (base_any q _).mono ?_
  rintro e w' ⟨rfl, rfl⟩
  rw [HB.out.1, HB.out.2]
  go_wp2_with fail
  refine (split_yes (q * 64) _ (by omega) (by omega)).mono ?_
  rintro e w1 ⟨rfl, hb1⟩
  rw [S.out]
  go_wp2_with fail
  have hk := Blk.new w1 24 #[.int .i64 (q / 64), .int .i64 (q / 8 % 8), .int .i64 (q % 8), .int .i64 0]
  have hB := hb1.alloc hb1.size (.cells #[.int .i64 (q / 64), .int .i64 (q / 8 % 8), .int .i64 (q % 8), .int .i64 0] 24)
  have hlt : w1.heap.size < (w1.alloc (.cells #[.int .i64 (q / 64), .int .i64 (q / 8 % 8), .int .i64 (q % 8), .int .i64 0] 24)).heap.size := by simp
  generalize w1.alloc (.cells #[.int .i64 (q / 64), .int .i64 (q / 8 % 8), .int .i64 (q % 8), .int .i64 0] 24) = W at hk hB hlt ⊢
  generalize w1.heap.size = g at hk hlt ⊢
  clear hb1
  obtain ⟨c0, c1, c2, c3⟩ := hk.c4
  have e1 : IntKind.i64.wrap (64 * (q / 64)) = 64 * (q / 64) := IntWalk.i64_in _ (by omega)
  have e2 : IntKind.i64.wrap (8 * (q / 8 % 8)) = 8 * (q / 8 % 8) := IntWalk.i64_in _ (by omega)
  have e3 : IntKind.i64.wrap (64 * (q / 64) + 8 * (q / 8 % 8)) = 64 * (q / 64) + 8 * (q / 8 % 8) := IntWalk.i64_in _ (by omega)
  have e4 : IntKind.i64.wrap (64 * (q / 64) + 8 * (q / 8 % 8) + q % 8) = q := by
    rw [IntWalk.i64_in _ (by omega)]; omega
  clear t
  go_region_held3 (fun w' => w'.cell? ⟨g, 0, none⟩ = some (.int .i64 (q / 64)) ∧ w'.cell? ⟨g, 1, none⟩ = some (.int .i64 (q / 8 % 8)) ∧ w'.cell? ⟨g, 2, none⟩ = some (.int .i64 (q % 8)) ∧ w'.cell? ⟨g, 3, none⟩ = some (.int .i64 0))
    (first | exact ⟨c0, c1, c2, c3⟩ | exact ⟨(hb3.cell (p := ⟨g, 0, none⟩) hlt).trans c0, (hb3.cell (p := ⟨g, 1, none⟩) hlt).trans c1, (hb3.cell (p := ⟨g, 2, none⟩) hlt).trans c2, (hb3.cell (p := ⟨g, 3, none⟩) hlt).trans c3⟩)
    (first
      | (go_at_call 20; refine (awake4 _).mono ?_; rintro e w3 ⟨rfl, hb3⟩)
      | (go_at_call 39; first | ((with_reducible refine (idx_any q 1 _).mono ?_); rintro e w' ⟨rfl, rfl⟩; rw [I1.out]) | ((with_reducible refine (idx_any q 2 _).mono ?_); rintro e w' ⟨rfl, rfl⟩; rw [I2.out]) | ((with_reducible refine (idx_any q 3 _).mono ?_); rintro e w' ⟨rfl, rfl⟩; rw [I3.out])))
  go_wp2
  go_ret
  exact ⟨rfl, hB.drew.trans (hb3.mono hB.size)⟩
theorem law_VaddrBack (va p : Int) (hv : (Lit.int .u64 va).wf = true) (_hp : (Lit.int .i64 p).wf = true) (w : World) :
    Calls Try.prog 13 #[.int .u64 va, .int .i64 p] w fun e w' => e = .returned (.bool true) ∧ Below w.heap.size w w' := by
  obtain ⟨v0, v1⟩ := wfu hv
  clear hv
  have hx0 : 0 ≤ va % 32768 := Int.emod_nonneg _ (by omega)
  have hx1 : va % 32768 < 32768 := Int.emod_lt_of_pos _ (by omega)
  have hq := low_bd p (n := 512) (by omega)
  have hlow := fun W => low_any p 512 W (by omega) (by omega)
  generalize lowV p 512 = q at hq hlow
  obtain ⟨q0, q1⟩ := hq
  have J := hide (splitE (va % 32768) ⟨hx0, hx1⟩)
  have HB := hide (baseE_ok ⟨q0, q1⟩)
  have HC := hide (baseE_ok (p := va % 32768 / 64) ⟨by omega, by omega⟩)
  have HL := hide hlow
  clear hlow
  go_enter Try.func13, Try.ntmps13
  go_wp2_with fail
  refine (HL.out _).mono ?_
  rintro e w' ⟨rfl, rfl⟩
  obtain ⟨x, hx⟩ : ∃ x, va % 32768 = x := ⟨_, rfl⟩
  rw [hx] at J HC hx0 hx1
  go_wp2_with fail
  clear hx
  refine (split_yes x _ hx0 hx1).mono ?_
  rintro e w1 ⟨rfl, hb1⟩
  unfold splitA
  go_wp2_with fail
  refine (join_any _ _ _ _ _).mono ?_
  rintro e w2 ⟨rfl, hb2⟩
  rw [J.out.1, J.out.2]
  obtain ⟨hz2, hk2⟩ := blk_after hb2
  obtain ⟨c0, c1, c2, c3⟩ := hk2.c4
  have hB2 : Below w.heap.size w w2 := (hb1.alloc hb1.size _).trans (hb2.mono (by have := hb1.size; simp; omega))
  clear hb2 hk2
  go_wp2_with fail
  refine (base_any q _).mono ?_
  rintro e w' ⟨rfl, rfl⟩
  rw [HB.out.1, HB.out.2]
  go_wp2_with fail
  refine (page_yes (q * 64) _ (by omega) (by omega)).mono ?_
  rintro e w' ⟨rfl, rfl⟩
  rw [show q * 64 / 64 = q by omega]
  go_wp2_with fail
  refine (page_yes x _ hx0 hx1).mono ?_
  rintro e w' ⟨rfl, rfl⟩
  go_wp2_with fail
  refine (base_any (x / 64) _).mono ?_
  rintro e w' ⟨rfl, rfl⟩
  rw [HC.out.1, HC.out.2]
  have t1 : x / 64 * 64 ≤ x := by omega
  have t2 : x - x / 64 * 64 < 64 := by omega
  have t3 : (x - x / 64 * 64 == x % 64) = true := beq_iff_eq.2 (by omega)
  go_wp2_with fail
  refine (awake4 _).mono ?_
  rintro e w3 ⟨rfl, hb3⟩
  go_wp2_with fail
  go_ret
  exact ⟨rfl, hB2.trans (hb3.mono hB2.size)⟩
theorem law_VaddrJoins (a b c o p l : Int) (_ : (Lit.int .i64 a).wf = true) (_ : (Lit.int .i64 b).wf = true) (_ : (Lit.int .i64 c).wf = true) (_ : (Lit.int .i64 o).wf = true) (_ : (Lit.int .i64 p).wf = true) (_ : (Lit.int .i64 l).wf = true) (w : World) :
    Calls Try.prog 14 #[.agg #[.int .i64 a, .int .i64 b, .int .i64 c, .int .i64 o], .int .i64 p, .int .i64 l] w fun e w' => e = .returned (.bool true) ∧ Below w.heap.size w w' := by
  go_enter Try.func14, Try.ntmps14
  go_wp2_with fail
  refine (join_any a b c o _).mono ?_
  rintro e w1 ⟨rfl, hb1⟩
  obtain ⟨hz1, hk1⟩ := blk_after hb1
  obtain ⟨c0, c1, c2, c3⟩ := hk1.c4
  have hB1 : Below w.heap.size w w1 := ((Below.refl _ w).alloc (Nat.le_refl _) _).trans (hb1.mono (by simp))
  clear hb1 hk1
  go_wp2_with fail
  refine (rjoin_any a b c o _).mono ?_
  rintro e w2 ⟨rfl, hb2⟩
  have hB2 := hB1.trans (hb2.mono hB1.size)
  go_wp2_with fail
  refine (base_any p _).mono ?_
  rintro e w' ⟨rfl, rfl⟩
  go_wp2_with fail
  refine (rbase_any p _).mono ?_
  rintro e w' ⟨rfl, rfl⟩
  go_wp2_with fail
  refine (num_any _ _).mono ?_
  rintro e w' ⟨rfl, rfl⟩
  go_wp2_with fail
  refine (num_any _ _).mono ?_
  rintro e w' ⟨rfl, rfl⟩
  go_wp2_with fail
  refine (idx_any p l _).mono ?_
  rintro e w' ⟨rfl, rfl⟩
  go_wp2_with fail
  refine (ridx_any p l _).mono ?_
  rintro e w' ⟨rfl, rfl⟩
  go_wp2_with fail
  refine (awake4 _).mono ?_
  rintro e w3 ⟨rfl, hb3⟩
  go_wp2_with fail
  go_ret
  exact ⟨rfl, hB2.trans (hb3.mono hB2.size)⟩
end Go.Proofs.Ytdmpdfogilcjnaa
