/- The reference's order answers what decV says. -/
import Derived.Test.YtofmcaagnhdecaaDecO
import Derived.Test.YtofmcaagnhdecaaDecOb
import Derived.Test.YtofmcaagnhdecaaDecO1
namespace Go.Proofs.Ytofmcaagnhdecaa
open Go.RowKit Go.Shelf
theorem inr_bd {lo hi x : Int} {t : Nat} (h : inr (lo, hi, t) x = true) : lo ≤ x ∧ x ≤ hi := by
  unfold inr at h
  simpa using h
theorem rord_1 (x : Nat → Int) (w : World) (hr : rangeBad [(0, 4095, 1), (0, 15, 4), (0, 64, 5), (0, 4095, 2), (0, 15, 6), (1, 4, 12)] x 6 = false) : Calls Try.prog 21 #[.agg (callA 1 x), .string ⟨#[97, 107, 122, 97, 105, 99]⟩] w fun e w' => e = .returned (.agg (ordA (finM 1 (mTo [(0, 4095, 1), (0, 15, 4), (0, 64, 5), (0, 4095, 2), (0, 15, 6), (1, 4, 12)] x 6)))) ∧ Below w.heap.size w w' := by
  have r0 : inr (0, 4095, 1) (x 0) = true := rangeBad_all hr 0 _ rfl (by decide)
  have r1 : inr (0, 15, 4) (x 1) = true := rangeBad_all hr 1 _ rfl (by decide)
  have r2 : inr (0, 64, 5) (x 2) = true := rangeBad_all hr 2 _ rfl (by decide)
  have r3 : inr (0, 4095, 2) (x 3) = true := rangeBad_all hr 3 _ rfl (by decide)
  have r4 : inr (0, 15, 6) (x 4) = true := rangeBad_all hr 4 _ rfl (by decide)
  have r5 : inr (1, 4, 12) (x 5) = true := rangeBad_all hr 5 _ rfl (by decide)
  have e : ordA (finM 1 (mTo [(0, 4095, 1), (0, 15, 4), (0, 64, 5), (0, 4095, 2), (0, 15, 6), (1, 4, 12)] x 6)) = #[.int .i64 1, .int .i64 (x 0), .int .i64 (x 3), .int .i64 0, .int .i64 (x 1), .int .i64 (x 2), .int .i64 (x 4 + 16 * x 5), .int .u64 0, .int .u64 0, .int .u64 0, .int .u64 0, .int .u64 0] := by
    unfold ordA finM
    simp [mTo, r0, r1, r2, r3, r4, r5]
  rw [e]
  have b0 := inr_bd r0
  have b1 := inr_bd r1
  have b2 := inr_bd r2
  have b3 := inr_bd r3
  have b4 := inr_bd r4
  have b5 := inr_bd r5
  exact rorder_one x _ w (by omega) (by omega) (by omega) (by omega) (by omega) (by omega)
theorem rord_2 (x : Nat → Int) (w : World) (hr : rangeBad [(0, 4095, 1), (0, 4095, 2), (0, 7, 4)] x 6 = false) : Calls Try.prog 21 #[.agg (callA 2 x), .string ⟨#[97, 97, 109]⟩] w fun e w' => e = .returned (.agg (ordA (finM 2 (mTo [(0, 4095, 1), (0, 4095, 2), (0, 7, 4)] x 6)))) ∧ Below w.heap.size w w' := by
  have r0 : inr (0, 4095, 1) (x 0) = true := rangeBad_all hr 0 _ rfl (by decide)
  have r1 : inr (0, 4095, 2) (x 1) = true := rangeBad_all hr 1 _ rfl (by decide)
  have r2 : inr (0, 7, 4) (x 2) = true := rangeBad_all hr 2 _ rfl (by decide)
  have e : ordA (finM 2 (mTo [(0, 4095, 1), (0, 4095, 2), (0, 7, 4)] x 6)) = #[.int .i64 2, .int .i64 (x 0), .int .i64 (x 1), .int .i64 0, .int .i64 (x 2), .int .i64 0, .int .i64 0, .int .u64 0, .int .u64 0, .int .u64 0, .int .u64 0, .int .u64 0] := by
    unfold ordA finM
    simp [mTo, r0, r1, r2]
  rw [e]
  have b0 := inr_bd r0
  have b1 := inr_bd r1
  have b2 := inr_bd r2
  exact rorder_aam 2 x w (by decide) (by decide) (by omega) (by omega) (by omega)
theorem rord_3 (x : Nat → Int) (w : World) (hr : rangeBad [(0, 4095, 1), (0, 4095, 2), (0, 7, 4), (0, 18446744073709551615, 7)] x 6 = false) : Calls Try.prog 21 #[.agg (callA 3 x), .string ⟨#[97, 97, 109, 119]⟩] w fun e w' => e = .returned (.agg (ordA (finM 3 (mTo [(0, 4095, 1), (0, 4095, 2), (0, 7, 4), (0, 18446744073709551615, 7)] x 6)))) ∧ Below w.heap.size w w' := by
  have r0 : inr (0, 4095, 1) (x 0) = true := rangeBad_all hr 0 _ rfl (by decide)
  have r1 : inr (0, 4095, 2) (x 1) = true := rangeBad_all hr 1 _ rfl (by decide)
  have r2 : inr (0, 7, 4) (x 2) = true := rangeBad_all hr 2 _ rfl (by decide)
  have r3 : inr (0, 18446744073709551615, 7) (x 3) = true := rangeBad_all hr 3 _ rfl (by decide)
  have e : ordA (finM 3 (mTo [(0, 4095, 1), (0, 4095, 2), (0, 7, 4), (0, 18446744073709551615, 7)] x 6)) = #[.int .i64 3, .int .i64 (x 0), .int .i64 (x 1), .int .i64 0, .int .i64 (x 2), .int .i64 0, .int .i64 0, .int .u64 (x 3), .int .u64 0, .int .u64 0, .int .u64 0, .int .u64 0] := by
    unfold ordA finM
    simp [mTo, r0, r1, r2, r3]
  rw [e]
  have b0 := inr_bd r0
  have b1 := inr_bd r1
  have b2 := inr_bd r2
  exact rorder_aamw 3 x w (by decide) (by decide) (by omega) (by omega) (by omega)
theorem rord_4 (x : Nat → Int) (w : World) (hr : rangeBad [(0, 4095, 1), (0, 4095, 2)] x 6 = false) : Calls Try.prog 21 #[.agg (callA 4 x), .string ⟨#[97, 97]⟩] w fun e w' => e = .returned (.agg (ordA (finM 4 (mTo [(0, 4095, 1), (0, 4095, 2)] x 6)))) ∧ Below w.heap.size w w' := by
  have r0 : inr (0, 4095, 1) (x 0) = true := rangeBad_all hr 0 _ rfl (by decide)
  have r1 : inr (0, 4095, 2) (x 1) = true := rangeBad_all hr 1 _ rfl (by decide)
  have e : ordA (finM 4 (mTo [(0, 4095, 1), (0, 4095, 2)] x 6)) = #[.int .i64 4, .int .i64 (x 0), .int .i64 (x 1), .int .i64 0, .int .i64 0, .int .i64 0, .int .i64 0, .int .u64 0, .int .u64 0, .int .u64 0, .int .u64 0, .int .u64 0] := by
    unfold ordA finM
    simp [mTo, r0, r1]
  rw [e]
  have b0 := inr_bd r0
  have b1 := inr_bd r1
  exact rorder_aa 4 x w (by decide) (by decide) (by omega) (by omega)
theorem rord_5 (x : Nat → Int) (w : World) (hr : rangeBad [(0, 4095, 1), (0, 4095, 2)] x 6 = false) : Calls Try.prog 21 #[.agg (callA 5 x), .string ⟨#[97, 97]⟩] w fun e w' => e = .returned (.agg (ordA (finM 5 (mTo [(0, 4095, 1), (0, 4095, 2)] x 6)))) ∧ Below w.heap.size w w' := by
  have r0 : inr (0, 4095, 1) (x 0) = true := rangeBad_all hr 0 _ rfl (by decide)
  have r1 : inr (0, 4095, 2) (x 1) = true := rangeBad_all hr 1 _ rfl (by decide)
  have e : ordA (finM 5 (mTo [(0, 4095, 1), (0, 4095, 2)] x 6)) = #[.int .i64 5, .int .i64 (x 0), .int .i64 (x 1), .int .i64 0, .int .i64 0, .int .i64 0, .int .i64 0, .int .u64 0, .int .u64 0, .int .u64 0, .int .u64 0, .int .u64 0] := by
    unfold ordA finM
    simp [mTo, r0, r1]
  rw [e]
  have b0 := inr_bd r0
  have b1 := inr_bd r1
  exact rorder_aa 5 x w (by decide) (by decide) (by omega) (by omega)
theorem rord_6 (x : Nat → Int) (w : World) (hr : rangeBad [(0, 4095, 1)] x 6 = false) : Calls Try.prog 21 #[.agg (callA 6 x), .string ⟨#[97]⟩] w fun e w' => e = .returned (.agg (ordA (finM 6 (mTo [(0, 4095, 1)] x 6)))) ∧ Below w.heap.size w w' := by
  have r0 : inr (0, 4095, 1) (x 0) = true := rangeBad_all hr 0 _ rfl (by decide)
  have e : ordA (finM 6 (mTo [(0, 4095, 1)] x 6)) = #[.int .i64 6, .int .i64 (x 0), .int .i64 0, .int .i64 0, .int .i64 0, .int .i64 0, .int .i64 0, .int .u64 0, .int .u64 0, .int .u64 0, .int .u64 0, .int .u64 0] := by
    unfold ordA finM
    simp [mTo, r0]
  rw [e]
  have b0 := inr_bd r0
  exact rorder_a 6 x w (by decide) (by decide) (by omega)
theorem rord_7 (x : Nat → Int) (w : World) (hr : rangeBad [(0, 4095, 1), (1, 64, 4)] x 6 = false) : Calls Try.prog 21 #[.agg (callA 7 x), .string ⟨#[97, 98]⟩] w fun e w' => e = .returned (.agg (ordA (finM 7 (mTo [(0, 4095, 1), (1, 64, 4)] x 6)))) ∧ Below w.heap.size w w' := by
  have r0 : inr (0, 4095, 1) (x 0) = true := rangeBad_all hr 0 _ rfl (by decide)
  have r1 : inr (1, 64, 4) (x 1) = true := rangeBad_all hr 1 _ rfl (by decide)
  have e : ordA (finM 7 (mTo [(0, 4095, 1), (1, 64, 4)] x 6)) = #[.int .i64 7, .int .i64 (x 0), .int .i64 0, .int .i64 0, .int .i64 (x 1), .int .i64 0, .int .i64 0, .int .u64 0, .int .u64 0, .int .u64 0, .int .u64 0, .int .u64 0] := by
    unfold ordA finM
    simp [mTo, r0, r1]
  rw [e]
  have b0 := inr_bd r0
  have b1 := inr_bd r1
  exact rorder_ab 7 x w (by decide) (by decide) (by omega) (by omega)
theorem rord_8 (x : Nat → Int) (w : World) (hr : rangeBad [(0, 4095, 1), (0, 4095, 2), (0, 18446744073709551615, 7)] x 6 = false) : Calls Try.prog 21 #[.agg (callA 8 x), .string ⟨#[97, 97, 119]⟩] w fun e w' => e = .returned (.agg (ordA (finM 8 (mTo [(0, 4095, 1), (0, 4095, 2), (0, 18446744073709551615, 7)] x 6)))) ∧ Below w.heap.size w w' := by
  have r0 : inr (0, 4095, 1) (x 0) = true := rangeBad_all hr 0 _ rfl (by decide)
  have r1 : inr (0, 4095, 2) (x 1) = true := rangeBad_all hr 1 _ rfl (by decide)
  have r2 : inr (0, 18446744073709551615, 7) (x 2) = true := rangeBad_all hr 2 _ rfl (by decide)
  have e : ordA (finM 8 (mTo [(0, 4095, 1), (0, 4095, 2), (0, 18446744073709551615, 7)] x 6)) = #[.int .i64 8, .int .i64 (x 0), .int .i64 (x 1), .int .i64 0, .int .i64 0, .int .i64 0, .int .i64 0, .int .u64 (x 2), .int .u64 0, .int .u64 0, .int .u64 0, .int .u64 0] := by
    unfold ordA finM
    simp [mTo, r0, r1, r2]
  rw [e]
  have b0 := inr_bd r0
  have b1 := inr_bd r1
  exact rorder_aaw 8 x w (by decide) (by decide) (by omega) (by omega)
theorem rord_9 (x : Nat → Int) (w : World) (hr : rangeBad [(0, 4095, 1)] x 6 = false) : Calls Try.prog 21 #[.agg (callA 9 x), .string ⟨#[97]⟩] w fun e w' => e = .returned (.agg (ordA (finM 9 (mTo [(0, 4095, 1)] x 6)))) ∧ Below w.heap.size w w' := by
  have r0 : inr (0, 4095, 1) (x 0) = true := rangeBad_all hr 0 _ rfl (by decide)
  have e : ordA (finM 9 (mTo [(0, 4095, 1)] x 6)) = #[.int .i64 9, .int .i64 (x 0), .int .i64 0, .int .i64 0, .int .i64 0, .int .i64 0, .int .i64 0, .int .u64 0, .int .u64 0, .int .u64 0, .int .u64 0, .int .u64 0] := by
    unfold ordA finM
    simp [mTo, r0]
  rw [e]
  have b0 := inr_bd r0
  exact rorder_a 9 x w (by decide) (by decide) (by omega)
theorem rord_10 (x : Nat → Int) (w : World) (hr : rangeBad [(0, 4095, 1), (0, 4095, 2), (0, 18446744073709551615, 7), (0, 7, 4)] x 6 = false) : Calls Try.prog 21 #[.agg (callA 10 x), .string ⟨#[97, 97, 119, 109]⟩] w fun e w' => e = .returned (.agg (ordA (finM 10 (mTo [(0, 4095, 1), (0, 4095, 2), (0, 18446744073709551615, 7), (0, 7, 4)] x 6)))) ∧ Below w.heap.size w w' := by
  have r0 : inr (0, 4095, 1) (x 0) = true := rangeBad_all hr 0 _ rfl (by decide)
  have r1 : inr (0, 4095, 2) (x 1) = true := rangeBad_all hr 1 _ rfl (by decide)
  have r2 : inr (0, 18446744073709551615, 7) (x 2) = true := rangeBad_all hr 2 _ rfl (by decide)
  have r3 : inr (0, 7, 4) (x 3) = true := rangeBad_all hr 3 _ rfl (by decide)
  have e : ordA (finM 10 (mTo [(0, 4095, 1), (0, 4095, 2), (0, 18446744073709551615, 7), (0, 7, 4)] x 6)) = #[.int .i64 10, .int .i64 (x 0), .int .i64 (x 1), .int .i64 0, .int .i64 (x 3), .int .i64 0, .int .i64 0, .int .u64 (x 2), .int .u64 0, .int .u64 0, .int .u64 0, .int .u64 0] := by
    unfold ordA finM
    simp [mTo, r0, r1, r2, r3]
  rw [e]
  have b0 := inr_bd r0
  have b1 := inr_bd r1
  have b3 := inr_bd r3
  exact rorder_aawm 10 x w (by decide) (by decide) (by omega) (by omega) (by omega)
theorem rord_11 (x : Nat → Int) (w : World) (hr : rangeBad [(0, 4095, 1)] x 6 = false) : Calls Try.prog 21 #[.agg (callA 11 x), .string ⟨#[97]⟩] w fun e w' => e = .returned (.agg (ordA (finM 11 (mTo [(0, 4095, 1)] x 6)))) ∧ Below w.heap.size w w' := by
  have r0 : inr (0, 4095, 1) (x 0) = true := rangeBad_all hr 0 _ rfl (by decide)
  have e : ordA (finM 11 (mTo [(0, 4095, 1)] x 6)) = #[.int .i64 11, .int .i64 (x 0), .int .i64 0, .int .i64 0, .int .i64 0, .int .i64 0, .int .i64 0, .int .u64 0, .int .u64 0, .int .u64 0, .int .u64 0, .int .u64 0] := by
    unfold ordA finM
    simp [mTo, r0]
  rw [e]
  have b0 := inr_bd r0
  exact rorder_a 11 x w (by decide) (by decide) (by omega)
theorem rord_12 (x : Nat → Int) (w : World) (hr : rangeBad [(0, 4095, 1), (0, 4095, 2)] x 6 = false) : Calls Try.prog 21 #[.agg (callA 12 x), .string ⟨#[97, 97]⟩] w fun e w' => e = .returned (.agg (ordA (finM 12 (mTo [(0, 4095, 1), (0, 4095, 2)] x 6)))) ∧ Below w.heap.size w w' := by
  have r0 : inr (0, 4095, 1) (x 0) = true := rangeBad_all hr 0 _ rfl (by decide)
  have r1 : inr (0, 4095, 2) (x 1) = true := rangeBad_all hr 1 _ rfl (by decide)
  have e : ordA (finM 12 (mTo [(0, 4095, 1), (0, 4095, 2)] x 6)) = #[.int .i64 12, .int .i64 (x 0), .int .i64 (x 1), .int .i64 0, .int .i64 0, .int .i64 0, .int .i64 0, .int .u64 0, .int .u64 0, .int .u64 0, .int .u64 0, .int .u64 0] := by
    unfold ordA finM
    simp [mTo, r0, r1]
  rw [e]
  have b0 := inr_bd r0
  have b1 := inr_bd r1
  exact rorder_aa 12 x w (by decide) (by decide) (by omega) (by omega)
theorem rord_13 (x : Nat → Int) (w : World) (hr : rangeBad [(0, 4095, 1), (0, 4095, 2)] x 6 = false) : Calls Try.prog 21 #[.agg (callA 13 x), .string ⟨#[97, 97]⟩] w fun e w' => e = .returned (.agg (ordA (finM 13 (mTo [(0, 4095, 1), (0, 4095, 2)] x 6)))) ∧ Below w.heap.size w w' := by
  have r0 : inr (0, 4095, 1) (x 0) = true := rangeBad_all hr 0 _ rfl (by decide)
  have r1 : inr (0, 4095, 2) (x 1) = true := rangeBad_all hr 1 _ rfl (by decide)
  have e : ordA (finM 13 (mTo [(0, 4095, 1), (0, 4095, 2)] x 6)) = #[.int .i64 13, .int .i64 (x 0), .int .i64 (x 1), .int .i64 0, .int .i64 0, .int .i64 0, .int .i64 0, .int .u64 0, .int .u64 0, .int .u64 0, .int .u64 0, .int .u64 0] := by
    unfold ordA finM
    simp [mTo, r0, r1]
  rw [e]
  have b0 := inr_bd r0
  have b1 := inr_bd r1
  exact rorder_aa 13 x w (by decide) (by decide) (by omega) (by omega)
theorem rord_14 (x : Nat → Int) (w : World) (hr : rangeBad [(0, 4095, 1), (0, 4096, 4), (0, 18446744073709551615, 8), (0, 18446744073709551615, 9), (0, 18446744073709551615, 10), (0, 18446744073709551615, 11)] x 6 = false) : Calls Try.prog 21 #[.agg (callA 14 x), .string ⟨#[97, 103, 119, 119, 119, 119]⟩] w fun e w' => e = .returned (.agg (ordA (finM 14 (mTo [(0, 4095, 1), (0, 4096, 4), (0, 18446744073709551615, 8), (0, 18446744073709551615, 9), (0, 18446744073709551615, 10), (0, 18446744073709551615, 11)] x 6)))) ∧ Below w.heap.size w w' := by
  have r0 : inr (0, 4095, 1) (x 0) = true := rangeBad_all hr 0 _ rfl (by decide)
  have r1 : inr (0, 4096, 4) (x 1) = true := rangeBad_all hr 1 _ rfl (by decide)
  have r2 : inr (0, 18446744073709551615, 8) (x 2) = true := rangeBad_all hr 2 _ rfl (by decide)
  have r3 : inr (0, 18446744073709551615, 9) (x 3) = true := rangeBad_all hr 3 _ rfl (by decide)
  have r4 : inr (0, 18446744073709551615, 10) (x 4) = true := rangeBad_all hr 4 _ rfl (by decide)
  have r5 : inr (0, 18446744073709551615, 11) (x 5) = true := rangeBad_all hr 5 _ rfl (by decide)
  have e : ordA (finM 14 (mTo [(0, 4095, 1), (0, 4096, 4), (0, 18446744073709551615, 8), (0, 18446744073709551615, 9), (0, 18446744073709551615, 10), (0, 18446744073709551615, 11)] x 6)) = #[.int .i64 14, .int .i64 (x 0), .int .i64 0, .int .i64 0, .int .i64 (x 1), .int .i64 0, .int .i64 0, .int .u64 0, .int .u64 (x 2), .int .u64 (x 3), .int .u64 (x 4), .int .u64 (x 5)] := by
    unfold ordA finM
    simp [mTo, r0, r1, r2, r3, r4, r5]
  rw [e]
  have b0 := inr_bd r0
  have b1 := inr_bd r1
  exact rorder_agwwww 14 x w (by decide) (by decide) (by omega) (by omega)
theorem rord_15 (x : Nat → Int) (w : World) (hr : rangeBad [(0, 4095, 1), (0, 4096, 4), (0, 18446744073709551615, 8), (0, 18446744073709551615, 9), (0, 18446744073709551615, 10), (0, 18446744073709551615, 11)] x 6 = false) : Calls Try.prog 21 #[.agg (callA 15 x), .string ⟨#[97, 103, 119, 119, 119, 119]⟩] w fun e w' => e = .returned (.agg (ordA (finM 15 (mTo [(0, 4095, 1), (0, 4096, 4), (0, 18446744073709551615, 8), (0, 18446744073709551615, 9), (0, 18446744073709551615, 10), (0, 18446744073709551615, 11)] x 6)))) ∧ Below w.heap.size w w' := by
  have r0 : inr (0, 4095, 1) (x 0) = true := rangeBad_all hr 0 _ rfl (by decide)
  have r1 : inr (0, 4096, 4) (x 1) = true := rangeBad_all hr 1 _ rfl (by decide)
  have r2 : inr (0, 18446744073709551615, 8) (x 2) = true := rangeBad_all hr 2 _ rfl (by decide)
  have r3 : inr (0, 18446744073709551615, 9) (x 3) = true := rangeBad_all hr 3 _ rfl (by decide)
  have r4 : inr (0, 18446744073709551615, 10) (x 4) = true := rangeBad_all hr 4 _ rfl (by decide)
  have r5 : inr (0, 18446744073709551615, 11) (x 5) = true := rangeBad_all hr 5 _ rfl (by decide)
  have e : ordA (finM 15 (mTo [(0, 4095, 1), (0, 4096, 4), (0, 18446744073709551615, 8), (0, 18446744073709551615, 9), (0, 18446744073709551615, 10), (0, 18446744073709551615, 11)] x 6)) = #[.int .i64 15, .int .i64 (x 0), .int .i64 0, .int .i64 0, .int .i64 (x 1), .int .i64 0, .int .i64 0, .int .u64 0, .int .u64 (x 2), .int .u64 (x 3), .int .u64 (x 4), .int .u64 (x 5)] := by
    unfold ordA finM
    simp [mTo, r0, r1, r2, r3, r4, r5]
  rw [e]
  have b0 := inr_bd r0
  have b1 := inr_bd r1
  exact rorder_agwwww 15 x w (by decide) (by decide) (by omega) (by omega)
theorem rord_16 (x : Nat → Int) (w : World) (hr : rangeBad [(0, 4095, 1), (0, 4096, 4)] x 6 = false) : Calls Try.prog 21 #[.agg (callA 16 x), .string ⟨#[97, 103]⟩] w fun e w' => e = .returned (.agg (ordA (finM 16 (mTo [(0, 4095, 1), (0, 4096, 4)] x 6)))) ∧ Below w.heap.size w w' := by
  have r0 : inr (0, 4095, 1) (x 0) = true := rangeBad_all hr 0 _ rfl (by decide)
  have r1 : inr (0, 4096, 4) (x 1) = true := rangeBad_all hr 1 _ rfl (by decide)
  have e : ordA (finM 16 (mTo [(0, 4095, 1), (0, 4096, 4)] x 6)) = #[.int .i64 16, .int .i64 (x 0), .int .i64 0, .int .i64 0, .int .i64 (x 1), .int .i64 0, .int .i64 0, .int .u64 0, .int .u64 0, .int .u64 0, .int .u64 0, .int .u64 0] := by
    unfold ordA finM
    simp [mTo, r0, r1]
  rw [e]
  have b0 := inr_bd r0
  have b1 := inr_bd r1
  exact rorder_ag 16 x w (by decide) (by decide) (by omega) (by omega)
theorem rord_17 (x : Nat → Int) (w : World) (hr : rangeBad [(0, 18446744073709551615, 8), (0, 18446744073709551615, 9), (0, 18446744073709551615, 10), (0, 18446744073709551615, 11)] x 6 = false) : Calls Try.prog 21 #[.agg (callA 17 x), .string ⟨#[119, 119, 119, 119]⟩] w fun e w' => e = .returned (.agg (ordA (finM 17 (mTo [(0, 18446744073709551615, 8), (0, 18446744073709551615, 9), (0, 18446744073709551615, 10), (0, 18446744073709551615, 11)] x 6)))) ∧ Below w.heap.size w w' := by
  have r0 : inr (0, 18446744073709551615, 8) (x 0) = true := rangeBad_all hr 0 _ rfl (by decide)
  have r1 : inr (0, 18446744073709551615, 9) (x 1) = true := rangeBad_all hr 1 _ rfl (by decide)
  have r2 : inr (0, 18446744073709551615, 10) (x 2) = true := rangeBad_all hr 2 _ rfl (by decide)
  have r3 : inr (0, 18446744073709551615, 11) (x 3) = true := rangeBad_all hr 3 _ rfl (by decide)
  have e : ordA (finM 17 (mTo [(0, 18446744073709551615, 8), (0, 18446744073709551615, 9), (0, 18446744073709551615, 10), (0, 18446744073709551615, 11)] x 6)) = #[.int .i64 17, .int .i64 0, .int .i64 0, .int .i64 0, .int .i64 0, .int .i64 0, .int .i64 0, .int .u64 0, .int .u64 (x 0), .int .u64 (x 1), .int .u64 (x 2), .int .u64 (x 3)] := by
    unfold ordA finM
    simp [mTo, r0, r1, r2, r3]
  rw [e]
  exact rorder_wwww 17 x w (by decide) (by decide) 
theorem rord_18 (x : Nat → Int) (w : World) (_hr : rangeBad [] x 6 = false) : Calls Try.prog 21 #[.agg (callA 18 x), .string ⟨#[]⟩] w fun e w' => e = .returned (.agg (ordA (finM 18 (mTo [] x 6)))) ∧ Below w.heap.size w w' := by
  have e : ordA (finM 18 (mTo [] x 6)) = #[.int .i64 18, .int .i64 0, .int .i64 0, .int .i64 0, .int .i64 0, .int .i64 0, .int .i64 0, .int .u64 0, .int .u64 0, .int .u64 0, .int .u64 0, .int .u64 0] := by
    unfold ordA finM
    simp [mTo]
  rw [e]
  exact rorder_empty 18 x w (by decide) (by decide) 
theorem rord_19 (x : Nat → Int) (w : World) (hr : rangeBad [(0, 4095, 1), (0, 2, 4), (0, 4095, 2)] x 6 = false) : Calls Try.prog 21 #[.agg (callA 19 x), .string ⟨#[97, 115, 97]⟩] w fun e w' => e = .returned (.agg (ordA (finM 19 (mTo [(0, 4095, 1), (0, 2, 4), (0, 4095, 2)] x 6)))) ∧ Below w.heap.size w w' := by
  have r0 : inr (0, 4095, 1) (x 0) = true := rangeBad_all hr 0 _ rfl (by decide)
  have r1 : inr (0, 2, 4) (x 1) = true := rangeBad_all hr 1 _ rfl (by decide)
  have r2 : inr (0, 4095, 2) (x 2) = true := rangeBad_all hr 2 _ rfl (by decide)
  have e : ordA (finM 19 (mTo [(0, 4095, 1), (0, 2, 4), (0, 4095, 2)] x 6)) = #[.int .i64 19, .int .i64 (x 0), .int .i64 (x 2), .int .i64 0, .int .i64 (x 1), .int .i64 0, .int .i64 0, .int .u64 0, .int .u64 0, .int .u64 0, .int .u64 0, .int .u64 0] := by
    unfold ordA finM
    simp [mTo, r0, r1, r2]
  rw [e]
  have b0 := inr_bd r0
  have b1 := inr_bd r1
  have b2 := inr_bd r2
  exact rorder_asa 19 x w (by decide) (by decide) (by omega) (by omega) (by omega)
theorem rord_20 (x : Nat → Int) (w : World) (hr : rangeBad [(0, 4095, 1), (0, 2, 4)] x 6 = false) : Calls Try.prog 21 #[.agg (callA 20 x), .string ⟨#[97, 115]⟩] w fun e w' => e = .returned (.agg (ordA (finM 20 (mTo [(0, 4095, 1), (0, 2, 4)] x 6)))) ∧ Below w.heap.size w w' := by
  have r0 : inr (0, 4095, 1) (x 0) = true := rangeBad_all hr 0 _ rfl (by decide)
  have r1 : inr (0, 2, 4) (x 1) = true := rangeBad_all hr 1 _ rfl (by decide)
  have e : ordA (finM 20 (mTo [(0, 4095, 1), (0, 2, 4)] x 6)) = #[.int .i64 20, .int .i64 (x 0), .int .i64 0, .int .i64 0, .int .i64 (x 1), .int .i64 0, .int .i64 0, .int .u64 0, .int .u64 0, .int .u64 0, .int .u64 0, .int .u64 0] := by
    unfold ordA finM
    simp [mTo, r0, r1]
  rw [e]
  have b0 := inr_bd r0
  have b1 := inr_bd r1
  exact rorder_as 20 x w (by decide) (by decide) (by omega) (by omega)
theorem rord_21 (x : Nat → Int) (w : World) (hr : rangeBad [(0, 4095, 1)] x 6 = false) : Calls Try.prog 21 #[.agg (callA 21 x), .string ⟨#[97]⟩] w fun e w' => e = .returned (.agg (ordA (finM 21 (mTo [(0, 4095, 1)] x 6)))) ∧ Below w.heap.size w w' := by
  have r0 : inr (0, 4095, 1) (x 0) = true := rangeBad_all hr 0 _ rfl (by decide)
  have e : ordA (finM 21 (mTo [(0, 4095, 1)] x 6)) = #[.int .i64 21, .int .i64 (x 0), .int .i64 0, .int .i64 0, .int .i64 0, .int .i64 0, .int .i64 0, .int .u64 0, .int .u64 0, .int .u64 0, .int .u64 0, .int .u64 0] := by
    unfold ordA finM
    simp [mTo, r0]
  rw [e]
  have b0 := inr_bd r0
  exact rorder_a 21 x w (by decide) (by decide) (by omega)
theorem rord_22 (x : Nat → Int) (w : World) (hr : rangeBad [(0, 4095, 1)] x 6 = false) : Calls Try.prog 21 #[.agg (callA 22 x), .string ⟨#[97]⟩] w fun e w' => e = .returned (.agg (ordA (finM 22 (mTo [(0, 4095, 1)] x 6)))) ∧ Below w.heap.size w w' := by
  have r0 : inr (0, 4095, 1) (x 0) = true := rangeBad_all hr 0 _ rfl (by decide)
  have e : ordA (finM 22 (mTo [(0, 4095, 1)] x 6)) = #[.int .i64 22, .int .i64 (x 0), .int .i64 0, .int .i64 0, .int .i64 0, .int .i64 0, .int .i64 0, .int .u64 0, .int .u64 0, .int .u64 0, .int .u64 0, .int .u64 0] := by
    unfold ordA finM
    simp [mTo, r0]
  rw [e]
  have b0 := inr_bd r0
  exact rorder_a 22 x w (by decide) (by decide) (by omega)
theorem rord_23 (x : Nat → Int) (w : World) (hr : rangeBad [(0, 4095, 1), (0, 7, 4)] x 6 = false) : Calls Try.prog 21 #[.agg (callA 23 x), .string ⟨#[97, 112]⟩] w fun e w' => e = .returned (.agg (ordA (finM 23 (mTo [(0, 4095, 1), (0, 7, 4)] x 6)))) ∧ Below w.heap.size w w' := by
  have r0 : inr (0, 4095, 1) (x 0) = true := rangeBad_all hr 0 _ rfl (by decide)
  have r1 : inr (0, 7, 4) (x 1) = true := rangeBad_all hr 1 _ rfl (by decide)
  have e : ordA (finM 23 (mTo [(0, 4095, 1), (0, 7, 4)] x 6)) = #[.int .i64 23, .int .i64 (x 0), .int .i64 0, .int .i64 0, .int .i64 (x 1), .int .i64 0, .int .i64 0, .int .u64 0, .int .u64 0, .int .u64 0, .int .u64 0, .int .u64 0] := by
    unfold ordA finM
    simp [mTo, r0, r1]
  rw [e]
  have b0 := inr_bd r0
  have b1 := inr_bd r1
  exact rorder_ap 23 x w (by decide) (by decide) (by omega) (by omega)
theorem rorder_any {op : Int} {fs : List (Int × Int × Nat)} (hf : formL op = some fs) (x : Nat → Int) (w : World) (hr : rangeBad fs x 6 = false) : Calls Try.prog 21 #[.agg (callA op x), .string (formSB op)] w fun e w' => e = .returned (.agg (ordA (finM op (mTo fs x 6)))) ∧ Below w.heap.size w w' :=
  formL_elim (P := fun op fs => rangeBad fs x 6 = false → Calls Try.prog 21 #[.agg (callA op x), .string (formSB op)] w fun e w' => e = .returned (.agg (ordA (finM op (mTo fs x 6)))) ∧ Below w.heap.size w w') (fun h => rord_1 x w h) (fun h => rord_2 x w h) (fun h => rord_3 x w h) (fun h => rord_4 x w h) (fun h => rord_5 x w h) (fun h => rord_6 x w h) (fun h => rord_7 x w h) (fun h => rord_8 x w h) (fun h => rord_9 x w h) (fun h => rord_10 x w h) (fun h => rord_11 x w h) (fun h => rord_12 x w h) (fun h => rord_13 x w h) (fun h => rord_14 x w h) (fun h => rord_15 x w h) (fun h => rord_16 x w h) (fun h => rord_17 x w h) (fun h => rord_18 x w h) (fun h => rord_19 x w h) (fun h => rord_20 x w h) (fun h => rord_21 x w h) (fun h => rord_22 x w h) (fun h => rord_23 x w h) hf hr
end Go.Proofs.Ytofmcaagnhdecaa
