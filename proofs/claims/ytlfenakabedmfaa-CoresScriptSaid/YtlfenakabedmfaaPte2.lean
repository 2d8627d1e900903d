/- The walk of package pte: Decode, at every word. -/
import Derived.Test.YtlfenakabedmfaaPte
import Derived.WalkMore
import Derived.Deep.LoopGhost
import Derived.Outline
namespace Go.Proofs.Ytlfenakabedmfaa
open Go.RowKit

/-! What is read of a word -/
def okbit (j : Nat) : Prop := j < 4 ∨ (8 ≤ j ∧ j < 14)
instance (j : Nat) : Decidable (okbit j) := by unfold okbit; exact inferInstance
def entOf (w : Int) : Int := entV (bitB w 0) (bitB w 1) (bitB w 2) (bitB w 3) (w / 256 % 64)
/-- Is the word an entry's? -/
def decOk (w : Int) : Bool := entOf w == w && mayB (bitB w 0) (bitB w 1) (bitB w 2) (bitB w 3) (w / 256 % 64)
/-- The entry that is read, or the zero one. -/
def decA (w : Int) : Value := if decOk w then .agg #[.bool (bitB w 0), .bool (bitB w 1), .bool (bitB w 2), .bool (bitB w 3), .int .i64 (w / 256 % 64)] else .agg #[.bool false, .bool false, .bool false, .bool false, .int .i64 0]
def decE (w : Int) : Int := if decOk w then 0 else 5
theorem bit_ite (w : Int) (j k : Nat) (hk : k = 2 ^ j) : (if bitB w j = true then (k : Int) else 0) = w / (k : Int) % 2 * k := by
  have h := Int.emod_two_eq (w / (k : Int))
  have e : bitB w j = (w / (k : Int) % 2 == 1) := by unfold bitB; rw [hk, Int.natCast_pow]; rfl
  rw [e]
  rcases h with h | h <;> simp [h]
theorem entOf_eq (w : Int) : entOf w = w % 2 + w / 2 % 2 * 2 + w / 4 % 2 * 4 + w / 8 % 2 * 8 + w / 256 % 64 * 256 := by
  have h0 : (if bitB w 0 = true then (1 : Int) else 0) = w / 1 % 2 * 1 := bit_ite w 0 1 rfl
  have h1 : (if bitB w 1 = true then (2 : Int) else 0) = w / 2 % 2 * 2 := bit_ite w 1 2 rfl
  have h2 : (if bitB w 2 = true then (4 : Int) else 0) = w / 4 % 2 * 4 := bit_ite w 2 4 rfl
  have h3 : (if bitB w 3 = true then (8 : Int) else 0) = w / 8 % 2 * 8 := bit_ite w 3 8 rfl
  rw [Int.ediv_one, Int.mul_one] at h0
  unfold entOf entV
  rw [h0, h1, h2, h3]
theorem ent_good {w : Int} (w0 : 0 ≤ w) (w1 : w < 18446744073709551616) (h : ∀ j, j < 64 → bitB w j = true → okbit j) : entOf w = w := by
  obtain ⟨n, rfl⟩ := Int.eq_ofNat_of_zero_le w0
  have hn : n < 2 ^ 64 := by simp only [Nat.reducePow]; omega
  have hlt : n < 2 ^ 14 := by
    refine Nat.lt_pow_two_of_testBit _ (fun i hi => ?_)
    cases hb : n.testBit i with
    | false => rfl
    | true =>
      have h64 : i < 64 := Nat.lt_of_not_le (fun h64 => by
        rw [Nat.testBit_lt_two_pow (Nat.lt_of_lt_of_le hn (Nat.pow_le_pow_right (by omega) h64))] at hb
        cases hb)
      have := h i h64 (by rw [bitB_test]; exact hb)
      unfold okbit at this
      omega
  have hz : ∀ j, 4 ≤ j → j < 8 → (n : Int) / 2 ^ j % 2 = 0 := fun j h1 h2 => by
    cases hb : bitB (n : Int) j with
    | true =>
      have := h j (by omega) hb
      unfold okbit at this
      omega
    | false =>
      have := Int.emod_two_eq ((n : Int) / 2 ^ j)
      unfold bitB at hb
      rw [beq_eq_false_iff_ne] at hb
      omega
  have z4 := hz 4 (by omega) (by omega)
  have z5 := hz 5 (by omega) (by omega)
  have z6 := hz 6 (by omega) (by omega)
  have z7 := hz 7 (by omega) (by omega)
  rw [entOf_eq]
  simp only [Nat.reducePow] at hlt
  simp only [Int.reducePow] at z4 z5 z6 z7
  omega
theorem ent_bad {w : Int} (w0 : 0 ≤ w) {j : Nat} (hb : bitB w j = true) (hj : ¬ okbit j) : entOf w ≠ w := by
  intro he
  rw [entOf_eq] at he
  unfold okbit at hj
  have hlt : w < 16384 := by omega
  have h16 : w / 16 % 16 = 0 := by omega
  unfold bitB at hb
  have hb := eq_of_beq hb
  by_cases h : j < 14
  · have : j = 4 ∨ j = 5 ∨ j = 6 ∨ j = 7 := by omega
    rcases this with rfl | rfl | rfl | rfl <;> simp only [Int.reducePow] at hb <;> omega
  · have hp : (2 : Int) ^ 14 ≤ 2 ^ j := by
      have := Nat.pow_le_pow_right (n := 2) (by omega) (show 14 ≤ j by omega)
      have h2 := Int.ofNat_le.2 this
      rw [Int.natCast_pow, Int.natCast_pow] at h2
      exact h2
    have : w / 2 ^ j = 0 := Int.ediv_eq_zero_of_lt w0 (by simp only [Int.reducePow] at hp; omega)
    rw [this] at hb
    omega

/-! The loop's own state -/
def bitTo (w : Int) (k j : Nat) : Bool := decide (j < k) && bitB w j
def cellsD (w : Int) (k : Nat) : Array Value := #[.bool (bitTo w k 0), .bool (bitTo w k 1), .bool (bitTo w k 2), .bool (bitTo w k 3), .int .i64 0]
theorem bitTo_no {w : Int} {k : Nat} (h : bitB w k = false) (j : Nat) : bitTo w (k + 1) j = bitTo w k j := by
  unfold bitTo
  by_cases e : j = k
  · subst e; simp [h]
  · have : (j < k + 1) = (j < k) := by apply propext; omega
    simp [this]
theorem cellsD_no {w : Int} {k : Nat} (h : bitB w k = false) : cellsD w (k + 1) = cellsD w k := by
  unfold cellsD
  rw [bitTo_no h, bitTo_no h, bitTo_no h, bitTo_no h]
theorem cellsD_far {w : Int} {k : Nat} (h : 4 ≤ k) : cellsD w (k + 1) = cellsD w k := by
  unfold cellsD bitTo
  have e : ∀ j, j < 4 → (decide (j < k + 1)) = (decide (j < k)) := fun j hj => by rw [decide_eq_decide]; omega
  rw [e 0 (by omega), e 1 (by omega), e 2 (by omega), e 3 (by omega)]
theorem cellsD_set {w : Int} {k : Nat} (h : bitB w k = true) (hk : k < 4) : (cellsD w k).setIfInBounds k (.bool true) = cellsD w (k + 1) := by
  unfold cellsD bitTo
  have : k = 0 ∨ k = 1 ∨ k = 2 ∨ k = 3 := by omega
  rcases this with rfl | rfl | rfl | rfl <;> simp [h]
theorem cellsD_get (w : Int) {k j : Nat} (hj : j < 5) : ∃ u, (cellsD w k)[j]? = some u := ⟨_, Array.getElem?_eq_getElem (by simp [cellsD]; omega)⟩
def ptrsD (g : Nat) : Array Value := #[.pointer (some ⟨g, 0, none⟩), .pointer (some ⟨g, 1, none⟩), .pointer (some ⟨g, 2, none⟩), .pointer (some ⟨g, 3, none⟩)]
theorem ptrsD_get (g : Nat) {k : Nat} (hk : k < 4) : (ptrsD g)[k]? = some (.pointer (some ⟨g, k, none⟩)) := by
  unfold ptrsD
  have : k = 0 ∨ k = 1 ∨ k = 2 ∨ k = 3 := by omega
  rcases this with rfl | rfl | rfl | rfl <;> rfl
/-- The frame's bits that k rounds have laid. -/
def frameTo (w : Int) (k : Nat) : Int := w / 256 % 2 ^ (min (k - 8) 6)
theorem frameTo_bd (w : Int) (k : Nat) : 0 ≤ frameTo w k ∧ frameTo w k < 2 ^ (min (k - 8) 6) := by
  have hp : (0 : Int) < 2 ^ (min (k - 8) 6) := Int.pow_pos (by omega)
  exact ⟨Int.emod_nonneg _ (by omega), Int.emod_lt_of_pos _ hp⟩
theorem frameTo_64 (w : Int) (k : Nat) : 0 ≤ frameTo w k ∧ frameTo w k < 64 := by
  have h := frameTo_bd w k
  have hp : (2 : Int) ^ (min (k - 8) 6) ≤ 2 ^ 6 := by
    have := Nat.pow_le_pow_right (n := 2) (by omega) (show min (k - 8) 6 ≤ 6 by omega)
    have h2 := Int.ofNat_le.2 this
    rw [Int.natCast_pow, Int.natCast_pow] at h2
    exact h2
  simp only [Int.reducePow] at hp
  omega
theorem frameTo_far {w : Int} {k : Nat} (h : k < 8 ∨ 14 ≤ k) : frameTo w (k + 1) = frameTo w k := by
  unfold frameTo
  rw [show min (k + 1 - 8) 6 = min (k - 8) 6 by omega]
theorem mod_pow_succ (y : Int) (n : Nat) : y % 2 ^ (n + 1) = y % 2 ^ n + y / 2 ^ n % 2 * 2 ^ n := by
  have hp : (0 : Int) < 2 ^ n := Int.pow_pos (by omega)
  have h1 := Int.mul_ediv_add_emod y (2 ^ n)
  have h2 := Int.mul_ediv_add_emod (y / 2 ^ n) 2
  have h3 := Int.emod_nonneg y (show (2 : Int) ^ n ≠ 0 by omega)
  have h4 := Int.emod_lt_of_pos y hp
  have e : y = (2 ^ n * 2) * (y / 2 ^ n / 2) + (y % 2 ^ n + y / 2 ^ n % 2 * 2 ^ n) := by
    have : 2 ^ n * (2 * (y / 2 ^ n / 2) + y / 2 ^ n % 2) = (2 ^ n * 2) * (y / 2 ^ n / 2) + y / 2 ^ n % 2 * 2 ^ n := by
      rw [Int.mul_add, Int.mul_assoc, Int.mul_comm (2 ^ n) (y / 2 ^ n % 2)]
    rw [h2] at this
    omega
  have hb : 0 ≤ y / 2 ^ n % 2 * 2 ^ n ∧ y / 2 ^ n % 2 * 2 ^ n ≤ 2 ^ n := by
    rcases Int.emod_two_eq (y / 2 ^ n) with h | h <;> rw [h] <;> omega
  have key : ((2 ^ n * 2) * (y / 2 ^ n / 2) + (y % 2 ^ n + y / 2 ^ n % 2 * 2 ^ n)) % (2 ^ n * 2) = y % 2 ^ n + y / 2 ^ n % 2 * 2 ^ n := by
    rw [Int.mul_add_emod_self_left, Int.emod_eq_of_lt (by omega) (by omega)]
  rw [← e] at key
  rw [Int.pow_succ]
  exact key
theorem frame_bit (w : Int) {k : Nat} (h1 : 8 ≤ k) : w / 256 / 2 ^ (k - 8) % 2 = w / 2 ^ k % 2 := by
  rw [Int.ediv_ediv_of_nonneg (by omega), show (256 : Int) = 2 ^ 8 from rfl, ← Int.pow_add, show 8 + (k - 8) = k by omega]
theorem frameTo_in {w : Int} {k : Nat} (h1 : 8 ≤ k) (h2 : k < 14) : frameTo w (k + 1) = frameTo w k + w / 2 ^ k % 2 * 2 ^ (k - 8) := by
  unfold frameTo
  rw [show min (k + 1 - 8) 6 = k - 8 + 1 by omega, show min (k - 8) 6 = k - 8 by omega, mod_pow_succ, frame_bit w h1]
theorem bit_zero {w : Int} {k : Nat} (h : bitB w k = false) : w / 2 ^ k % 2 = 0 := by
  unfold bitB at h
  have h2 := Int.emod_two_eq (w / 2 ^ k)
  rw [beq_eq_false_iff_ne] at h
  omega
theorem frameTo_no {w : Int} {k : Nat} (h : bitB w k = false) : frameTo w (k + 1) = frameTo w k := by
  by_cases hk : 8 ≤ k ∧ k < 14
  · rw [frameTo_in hk.1 hk.2, bit_zero h]; simp
  · exact frameTo_far (by omega)
theorem frameTo_end (w : Int) : frameTo w 64 = w / 256 % 64 := rfl
theorem all_yes {w : Int} {k : Nat} (h : ∀ j, j < k → bitB w j = true → okbit j) (hk : okbit k) : ∀ j, j < k + 1 → bitB w j = true → okbit j := fun j hj hb => by
  by_cases e : j = k
  · subst e; exact hk
  · exact h j (by omega) hb
theorem all_no {w : Int} {k : Nat} (h : ∀ j, j < k → bitB w j = true → okbit j) (hk : bitB w k = false) : ∀ j, j < k + 1 → bitB w j = true → okbit j := fun j hj hb => by
  by_cases e : j = k
  · subst e; rw [hk] at hb; cases hb
  · exact h j (by omega) hb
theorem frameTo_put {w : Int} {k : Nat} (h1 : 8 ≤ k) (h2 : k < 14) (hb : bitB w k = true) : putV (frameTo w k) ((k : Int) - 8) 1 1 = frameTo w (k + 1) := by
  rw [frameTo_in h1 h2]
  unfold bitB at hb
  rw [eq_of_beq hb]
  have hbd := frameTo_bd w k
  rw [show min (k - 8) 6 = k - 8 by omega] at hbd
  unfold putV
  rw [show ((k : Int) - 8).toNat = k - 8 by omega, Int.ediv_eq_zero_of_lt hbd.1 hbd.2]
  simp

theorem fld_one (w : Int) (k : Nat) : fldV w (k : Int) 1 = w / 2 ^ k % 2 := by simp [fldV]
set_option maxRecDepth 100000 in
set_option maxHeartbeats 2000000 in
theorem dec_any (x : Int) (x0 : 0 ≤ x) (x1 : x < 18446744073709551616) (w : World) :
    Calls Try.prog 79 #[.int .u64 x] w fun e w' => e = .returned (.tuple #[decA x, .int .i64 (decE x)]) ∧ Below w.heap.size w w' := by
  go_enter Try.func79, Try.ntmps79
  go_wp2_with fail
  go_step3
  go_wp2_with fail
  have hr0 : Blk ((w.alloc (.cells #[.bool false, .bool false, .bool false, .bool false, .int .i64 0] 50)).alloc (.cells #[.bool false, .bool false, .bool false, .bool false, .int .i64 0] 50)) w.heap.size 50 #[.bool false, .bool false, .bool false, .bool false, .int .i64 0] := (Blk.new w _ _).alloc _
  have he0 : Blk ((w.alloc (.cells #[.bool false, .bool false, .bool false, .bool false, .int .i64 0] 50)).alloc (.cells #[.bool false, .bool false, .bool false, .bool false, .int .i64 0] 50)) (w.heap.size + 1) 50 (cellsD x 0) := by
    have := Blk.new (w.alloc (.cells #[.bool false, .bool false, .bool false, .bool false, .int .i64 0] 50)) 50 #[.bool false, .bool false, .bool false, .bool false, .int .i64 0]
    rwa [World.size_alloc] at this
  have hB0 : Below w.heap.size w ((w.alloc (.cells #[.bool false, .bool false, .bool false, .bool false, .int .i64 0] 50)).alloc (.cells #[.bool false, .bool false, .bool false, .bool false, .int .i64 0] 50)) := ((Below.refl _ w).alloc (Nat.le_refl _) _).alloc (by simp) _
  have hz0 : w.heap.size + 1 < ((w.alloc (.cells #[.bool false, .bool false, .bool false, .bool false, .int .i64 0] 50)).alloc (.cells #[.bool false, .bool false, .bool false, .bool false, .int .i64 0] 50)).heap.size := by simp
  generalize (w.alloc (.cells #[.bool false, .bool false, .bool false, .bool false, .int .i64 0] 50)).alloc (.cells #[.bool false, .bool false, .bool false, .bool false, .int .i64 0] 50) = W0 at hr0 he0 hB0 hz0 ⊢
  obtain ⟨g, hg⟩ : ∃ g, w.heap.size = g := ⟨_, rfl⟩
  rw [hg] at hr0 he0 hB0 hz0 ⊢
  have HG := hide hg
  clear hg
  refine (flags_any (g + 1) _).mono ?_
  rintro e W1 ⟨rfl, hb1⟩
  have hr1 := hr0.below hb1 (by omega)
  have he1 := he0.below hb1 (by omega)
  have hz1 := Nat.lt_of_lt_of_le hz0 hb1.size
  have hB1 := hB0.trans (hb1.mono (by omega))
  clear hr0 he0 hB0 hz0 hb1
  go_wp2_with fail
  have hr2 := hr1.alloc (.cells #[.pointer (some ⟨g + 1, 0, none⟩), .pointer (some ⟨g + 1, 1, none⟩), .pointer (some ⟨g + 1, 2, none⟩), .pointer (some ⟨g + 1, 3, none⟩)] 190)
  have he2 := he1.alloc (.cells #[.pointer (some ⟨g + 1, 0, none⟩), .pointer (some ⟨g + 1, 1, none⟩), .pointer (some ⟨g + 1, 2, none⟩), .pointer (some ⟨g + 1, 3, none⟩)] 190)
  have hf2 : Blk (W1.alloc (.cells #[.pointer (some ⟨g + 1, 0, none⟩), .pointer (some ⟨g + 1, 1, none⟩), .pointer (some ⟨g + 1, 2, none⟩), .pointer (some ⟨g + 1, 3, none⟩)] 190)) W1.heap.size 190 (ptrsD (g + 1)) := Blk.new W1 _ _
  have hB2 := hB1.alloc (show g ≤ W1.heap.size by omega) (.cells #[.pointer (some ⟨g + 1, 0, none⟩), .pointer (some ⟨g + 1, 1, none⟩), .pointer (some ⟨g + 1, 2, none⟩), .pointer (some ⟨g + 1, 3, none⟩)] 190)
  generalize W1.alloc (.cells #[.pointer (some ⟨g + 1, 0, none⟩), .pointer (some ⟨g + 1, 1, none⟩), .pointer (some ⟨g + 1, 2, none⟩), .pointer (some ⟨g + 1, 3, none⟩)] 190) = W2 at hr2 he2 hf2 hB2 ⊢
  generalize W1.heap.size = gf at hz1 hf2 ⊢
  clear hr1 he1 hB1
  go_step3
  go_wp2_with fail
  go_loopw [6, 11] (fun f i wr => ∃ k : Nat, k ≤ 64 ∧ i = .int .i64 k ∧ f = .int .u64 (frameTo x k) ∧ Blk wr g 50 #[.bool false, .bool false, .bool false, .bool false, .int .i64 0] ∧ Blk wr (g + 1) 50 (cellsD x k) ∧ Blk wr gf 190 (ptrsD (g + 1)) ∧ Below g w wr ∧ g ≤ wr.heap.size ∧ ∀ j, j < k → bitB x j = true → okbit j) (fun _ i _ => 64 - (intOf i).toNat)
  case atStart => exact ⟨0, by omega, rfl, by simp [frameTo, Int.emod_one], hr2, he2, hf2, hB2, by have := hf2.lt; omega, fun j hj => absurd hj (by omega)⟩
  case round =>
    obtain ⟨k, hk, rfl, rfl, hr, he, hf, hB, hgs, hall⟩ := hrel
    have HR := hide hr
    have HE := hide he
    have HF := hide hf
    have HB := hide hB
    have HA := hide hall
    clear hr he hf hB hall hr2 he2 hf2 hB2
    by_cases hlt : k < 64
    · cases hbit : bitB x k with
      | false =>
        have HBt := hide hbit
        have HZ := hide ((fld_one x k).trans (bit_zero hbit))
        clear hbit
        go_wp2_with fail
        refine (field_yes x k 1 _ x0 x1 ⟨by omega, by omega, by omega, by omega, by omega⟩).mono ?_
        rintro e w' ⟨rfl, rfl⟩
        rw [HZ.out]
        go_wp2_with fail
        go_roundw
        case rel => exact ⟨k + 1, by omega, by go_num, by rw [frameTo_no HBt.out], HR.out, by rw [cellsD_no HBt.out]; exact HE.out, HF.out, HB.out, hgs, all_no HA.out HBt.out⟩
        case measure => simp [intOf]; omega
      | true =>
        have HBt := hide hbit
        have hz : fldV x k 1 = 1 := by
          rw [fld_one]
          unfold bitB at hbit
          exact eq_of_beq hbit
        have HZ := hide hz
        clear hz hbit
        by_cases h4 : k < 4
        · have c0 : wr.cell? ⟨gf, k, none⟩ = some (.pointer (some ⟨g + 1, k, none⟩)) := (HF.out.cell k).trans (ptrsD_get (g + 1) h4)
          obtain ⟨u, hu⟩ := cellsD_get x (k := k) (j := k) (by omega)
          have c1 : wr.cell? ⟨g + 1, k, none⟩ = some u := (HE.out.cell k).trans hu
          have f1 := HE.out.frozen k
          clear hu
          go_wp2_with fail
          refine (field_yes x k 1 _ x0 x1 ⟨by omega, by omega, by omega, by omega, by omega⟩).mono ?_
          rintro e w' ⟨rfl, rfl⟩
          rw [HZ.out]
          go_wp2_with fail
          go_roundw
          case rel => exact ⟨k + 1, by omega, by go_num, by rw [frameTo_far (by omega)], HR.out.far (by simp) _, by rw [← cellsD_set HBt.out h4]; exact HE.out.set_ k _, HF.out.far (by simp; omega) _, HB.out.setCell (by simp) _, by simpa [World.setCell] using hgs, all_yes HA.out (.inl h4)⟩
          case measure => simp [intOf]; omega
        by_cases h8 : 8 ≤ k
        · by_cases h14 : k < 14
          · have hfb := frameTo_64 x k
            have HP := hide (frameTo_put h8 h14 HBt.out)
            obtain ⟨fb0, fb1⟩ := hfb
            go_wp2_with fail
            refine (field_yes x k 1 _ x0 x1 ⟨by omega, by omega, by omega, by omega, by omega⟩).mono ?_
            rintro e w' ⟨rfl, rfl⟩
            rw [HZ.out]
            go_wp2_with fail
            refine (with_yes (frameTo x k) ((k : Int) - 8) 1 1 _ fb0 (by omega) ⟨by omega, by omega, by omega, by omega, by omega⟩ (by omega) (by decide)).mono ?_
            rintro e w9 ⟨rfl, hb9⟩
            rw [HP.out]
            go_wp2_with fail
            go_roundw
            case rel => exact ⟨k + 1, by omega, by go_num, rfl, HR.out.below hb9 HR.out.lt, by rw [cellsD_far (by omega)]; exact HE.out.below hb9 HE.out.lt, HF.out.below hb9 HF.out.lt, HB.out.trans (hb9.mono hgs), Nat.le_trans hgs hb9.size, all_yes HA.out (.inr ⟨h8, h14⟩)⟩
            case measure => simp [intOf]; omega
          · go_wp2_with fail
            refine (field_yes x k 1 _ x0 x1 ⟨by omega, by omega, by omega, by omega, by omega⟩).mono ?_
            rintro e w' ⟨rfl, rfl⟩
            rw [HZ.out]
            obtain ⟨c0, c1, c2, c3, c4⟩ := HR.out.c5
            have f0 := HR.out.frozen 0
            have f1 := HR.out.frozen 1
            have f2 := HR.out.frozen 2
            have f3 := HR.out.frozen 3
            have f4 := HR.out.frozen 4
            go_wp2_with fail
            have hd : decOk x = false := by
              unfold decOk
              rw [beq_eq_false_iff_ne.2 (ent_bad x0 HBt.out (by unfold okbit; omega)), Bool.false_and]
            have HD := hide hd
            clear hd
            try rw [Exit.noGoto_ret]
            have hR5 := ((((HR.out.set_ 0 (.bool false)).set_ 1 (.bool false)).set_ 2 (.bool false)).set_ 3 (.bool false)).set_ 4 (.int .i64 0)
            exact bodyPost_ret (results_cell_tmp rfl _ _ g 50 #[.bool false, .bool false, .bool false, .bool false, .int .i64 0] (0, 0) _ rfl hR5 Try.underlying50 rfl (by kernel_rfl)) rfl ⟨by unfold decA decE; rw [HD.out]; rfl, by rw [HG.out]; have hBB := HB.out; go_grown⟩
        · go_wp2_with fail
          refine (field_yes x k 1 _ x0 x1 ⟨by omega, by omega, by omega, by omega, by omega⟩).mono ?_
          rintro e w' ⟨rfl, rfl⟩
          rw [HZ.out]
          obtain ⟨c0, c1, c2, c3, c4⟩ := HR.out.c5
          have f0 := HR.out.frozen 0
          have f1 := HR.out.frozen 1
          have f2 := HR.out.frozen 2
          have f3 := HR.out.frozen 3
          have f4 := HR.out.frozen 4
          go_wp2_with fail
          have hd : decOk x = false := by
            unfold decOk
            rw [beq_eq_false_iff_ne.2 (ent_bad x0 HBt.out (by unfold okbit; omega)), Bool.false_and]
          have HD := hide hd
          clear hd
          try rw [Exit.noGoto_ret]
          have hR5 := ((((HR.out.set_ 0 (.bool false)).set_ 1 (.bool false)).set_ 2 (.bool false)).set_ 3 (.bool false)).set_ 4 (.int .i64 0)
          exact bodyPost_ret (results_cell_tmp rfl _ _ g 50 #[.bool false, .bool false, .bool false, .bool false, .int .i64 0] (0, 0) _ rfl hR5 Try.underlying50 rfl (by kernel_rfl)) rfl ⟨by unfold decA decE; rw [HD.out]; rfl, by rw [HG.out]; have hBB := HB.out; go_grown⟩
    · obtain rfl : k = 64 := by omega
      have hent := ent_good x0 x1 HA.out
      have hd : decOk x = mayB (bitB x 0) (bitB x 1) (bitB x 2) (bitB x 3) (x / 256 % 64) := by
        unfold decOk
        rw [hent, beq_self_eq_true, Bool.true_and]
      have HD := hide hd
      have he : Blk wr (g + 1) 50 #[.bool (bitB x 0), .bool (bitB x 1), .bool (bitB x 2), .bool (bitB x 3), .int .i64 0] := HE.out
      rw [frameTo_end]
      have fb0 : 0 ≤ x / 256 % 64 := Int.emod_nonneg _ (by omega)
      have fb1 : x / 256 % 64 < 64 := Int.emod_lt_of_pos _ (by omega)
      have hA : ∀ b, mayB (bitB x 0) (bitB x 1) (bitB x 2) (bitB x 3) (x / 256 % 64) = b → decA x = (if b then .agg #[.bool (bitB x 0), .bool (bitB x 1), .bool (bitB x 2), .bool (bitB x 3), .int .i64 (x / 256 % 64)] else .agg #[.bool false, .bool false, .bool false, .bool false, .int .i64 0]) ∧ decE x = if b then 0 else 5 := fun b hb => by
        unfold decA decE
        rw [hd, hb]
        exact ⟨rfl, rfl⟩
      have HAA := hide hA
      clear hent hd HD HE HA HF hA
      generalize bitB x 0 = v at he HAA
      generalize bitB x 1 = l at he HAA
      generalize bitB x 2 = r at he HAA
      generalize bitB x 3 = s at he HAA
      generalize x / 256 % 64 = f at fb0 fb1 HAA ⊢
      obtain ⟨c0, c1, c2, c3, c4⟩ := he.c5
      have f4 := he.frozen 4
      have hR := HR.out
      have HE4 := hide (he.set_ 4 (.int .i64 f))
      have HR4 := hide (HR.out.far (p := ⟨g + 1, 4, none⟩) (by simp) (.int .i64 f))
      have HB4 := hide (HB.out.setCell (p := ⟨g + 1, 4, none⟩) (by simp) (.int .i64 f))
      have hgs4 : g + 1 < (wr.setCell ⟨g + 1, 4, none⟩ (.int .i64 f)).heap.size := HE4.out.lt
      clear he hR
      cases hm : mayB v l r s f with
      | true =>
        obtain ⟨a1, a2⟩ := HAA.out true hm
        have HM := hide hm
        have A1 := hide a1
        have A2 := hide a2
        clear hm a1 a2 HAA
        go_wp2_with fail
        generalize wr.setCell ⟨g + 1, 4, none⟩ (.int .i64 f) = W5 at HE4 HR4 HB4 hgs4 ⊢
        refine (pmay_any v l r s f _).mono ?_
        rintro e w9 ⟨rfl, hb9⟩
        rw [HM.out]
        have hr9 := HR4.out.below hb9 HR4.out.lt
        have he9 : Blk w9 (g + 1) 50 #[.bool v, .bool l, .bool r, .bool s, .int .i64 f] := HE4.out.below hb9 HE4.out.lt
        have hB9 := HB4.out.trans (hb9.mono (by omega))
        have HR9 := hide hr9
        have HB9 := hide hB9
        obtain ⟨d0, d1, d2, d3, d4⟩ := he9.c5
        obtain ⟨r0, r1, r2, r3, r4⟩ := hr9.c5
        have q0 := hr9.frozen 0
        have q1 := hr9.frozen 1
        have q2 := hr9.frozen 2
        have q3 := hr9.frozen 3
        have q4 := hr9.frozen 4
        clear hr9 he9 hB9 hb9
        go_wp2_with fail
        try rw [Exit.noGoto_ret]
        have hR5 := ((((HR9.out.set_ 0 (.bool v)).set_ 1 (.bool l)).set_ 2 (.bool r)).set_ 3 (.bool s)).set_ 4 (.int .i64 f)
        exact bodyPost_ret (results_cell_tmp rfl _ _ g 50 #[.bool v, .bool l, .bool r, .bool s, .int .i64 f] (0, 0) _ rfl hR5 Try.underlying50 rfl (by kernel_rfl)) rfl ⟨by rw [A1.out, A2.out]; rfl, by rw [HG.out]; have hBB := HB9.out; go_grown⟩
      | false =>
        obtain ⟨a1, a2⟩ := HAA.out false hm
        have HM := hide hm
        have A1 := hide a1
        have A2 := hide a2
        clear hm a1 a2 HAA
        go_wp2_with fail
        generalize wr.setCell ⟨g + 1, 4, none⟩ (.int .i64 f) = W5 at HE4 HR4 HB4 hgs4 ⊢
        refine (pmay_any v l r s f _).mono ?_
        rintro e w9 ⟨rfl, hb9⟩
        rw [HM.out]
        have hr9 := HR4.out.below hb9 HR4.out.lt
        have hB9 := HB4.out.trans (hb9.mono (by omega))
        have HR9 := hide hr9
        have HB9 := hide hB9
        obtain ⟨r0, r1, r2, r3, r4⟩ := hr9.c5
        have q0 := hr9.frozen 0
        have q1 := hr9.frozen 1
        have q2 := hr9.frozen 2
        have q3 := hr9.frozen 3
        have q4 := hr9.frozen 4
        clear hr9 hB9 hb9
        go_wp2_with fail
        try rw [Exit.noGoto_ret]
        have hR5 := ((((HR9.out.set_ 0 (.bool false)).set_ 1 (.bool false)).set_ 2 (.bool false)).set_ 3 (.bool false)).set_ 4 (.int .i64 0)
        exact bodyPost_ret (results_cell_tmp rfl _ _ g 50 #[.bool false, .bool false, .bool false, .bool false, .int .i64 0] (0, 0) _ rfl hR5 Try.underlying50 rfl (by kernel_rfl)) rfl ⟨by rw [A1.out, A2.out]; rfl, by rw [HG.out]; have hBB := HB9.out; go_grown⟩
end Go.Proofs.Ytlfenakabedmfaa
