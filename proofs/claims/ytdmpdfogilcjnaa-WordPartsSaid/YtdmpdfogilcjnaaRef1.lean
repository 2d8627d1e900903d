/- The walks of the reference of chapter 1: Bits, Number, wrong, Field, Fits, With, Ones. -/
import Derived.Test.YtdmpdfogilcjnaaWord
import Derived.Laws.Tables
import Derived.Laws.CopyOwn
import Derived.Great.Ranges
import Derived.OwnWalk
namespace Go.Proofs.Ytdmpdfogilcjnaa
open Go.RowKit

/-- The bits of a word, the lowest first; and those of them that k rounds have laid. -/
def bitV (x : Int) (j : Nat) : Value := .int .i64 (x / 2 ^ j % 2)
def bitsA (x : Int) : Array Value := Array.ofFn (n := 64) fun j => bitV x j.val
def bitsC (x : Int) (k : Nat) : Array Value := Array.ofFn (n := 64) fun j => if j.val < k then bitV x j.val else .int .i64 0
theorem bitsA_size (x : Int) : (bitsA x).size = 64 := by simp [bitsA]
theorem bitsC_size (x : Int) (k : Nat) : (bitsC x k).size = 64 := by simp [bitsC]
theorem bitsC_all (x : Int) : bitsC x 64 = bitsA x := by
  apply Array.ext
  · simp [bitsA, bitsC]
  · intro i h1 h2
    simp [bitsA, bitsC]
theorem bitsC_get {x : Int} {k j : Nat} (hj : j < 64) : ∃ v, (bitsC x k)[j]? = some v := ⟨_, Array.getElem?_eq_getElem (by simp [bitsC, hj])⟩
theorem bitsC_set (x : Int) (k : Nat) : (bitsC x k).setIfInBounds k (bitV x k) = bitsC x (k + 1) := by
  apply Array.ext
  · simp [bitsC]
  · intro i h1 h2
    have hi : i < 64 := by simpa [bitsC] using h2
    rw [Array.getElem_setIfInBounds (by simpa using h1)]
    by_cases e : k = i
    · subst e; simp [bitsC]
    · have : (i < k + 1) = (i < k) := by apply propext; omega
      simp [bitsC, e, this]
theorem bitsA_get {x : Int} {j : Nat} (hj : j < 64) : (bitsA x)[j]? = some (bitV x j) := by
  rw [Array.getElem?_eq_getElem (by simp [bitsA, hj])]
  simp [bitsA]
theorem bits_one (x : Int) : (bitsA x).all (·.oneCell') = true := by
  rw [Array.all_eq_true]
  intro i hi
  simp [bitsA, bitV, Value.oneCell']

theorem mul_div_pow (x : Int) (k : Nat) : x / 2 ^ k / 2 = x / 2 ^ (k + 1) := by
  rw [Int.ediv_ediv_of_nonneg (Int.le_of_lt (Int.pow_pos (by omega))), Int.pow_succ]

theorem infoA : (Try.prog.info? 65).map (·.size) = some 64 := by kernel_rfl
set_option maxRecDepth 100000 in
set_option maxHeartbeats 2000000 in
theorem rbits_any (x : Int) (x0 : 0 ≤ x) (x1 : x < 18446744073709551616) (w : World) :
    Calls Try.prog 48 #[.int .u64 x] w fun e w' => e = .returned (.agg (bitsA x)) ∧ Below w.heap.size w w' := by
  have z0 : (#[.int .i64 0, .int .i64 0, .int .i64 0, .int .i64 0, .int .i64 0, .int .i64 0, .int .i64 0, .int .i64 0, .int .i64 0, .int .i64 0, .int .i64 0, .int .i64 0, .int .i64 0, .int .i64 0, .int .i64 0, .int .i64 0, .int .i64 0, .int .i64 0, .int .i64 0, .int .i64 0, .int .i64 0, .int .i64 0, .int .i64 0, .int .i64 0, .int .i64 0, .int .i64 0, .int .i64 0, .int .i64 0, .int .i64 0, .int .i64 0, .int .i64 0, .int .i64 0,
    .int .i64 0, .int .i64 0, .int .i64 0, .int .i64 0, .int .i64 0, .int .i64 0, .int .i64 0, .int .i64 0, .int .i64 0, .int .i64 0, .int .i64 0, .int .i64 0, .int .i64 0, .int .i64 0, .int .i64 0, .int .i64 0, .int .i64 0, .int .i64 0, .int .i64 0, .int .i64 0, .int .i64 0, .int .i64 0, .int .i64 0, .int .i64 0, .int .i64 0, .int .i64 0, .int .i64 0, .int .i64 0, .int .i64 0, .int .i64 0, .int .i64 0, .int .i64 0] : Array Value) = bitsC x 0 := by kernel_rfl
  go_enter Try.func48, Try.ntmps48
  go_wp2_with fail
  clear z0
  have hk0 : Blk ((w.alloc (.cells (bitsC x 0) 65)).alloc (.cells (bitsC x 0) 65)) w.heap.size 65 (bitsC x 0) := (Blk.new w _ _).alloc _
  have hk1 : Blk ((w.alloc (.cells (bitsC x 0) 65)).alloc (.cells (bitsC x 0) 65)) (w.heap.size + 1) 65 (bitsC x 0) := by
    have := Blk.new (w.alloc (.cells (bitsC x 0) 65)) 65 (bitsC x 0)
    rwa [World.size_alloc] at this
  have hB : Below w.heap.size w ((w.alloc (.cells (bitsC x 0) 65)).alloc (.cells (bitsC x 0) 65)) := ((Below.refl _ _).alloc (Nat.le_refl _) _).alloc (by simp) _
  generalize (w.alloc (.cells (bitsC x 0) 65)).alloc (.cells (bitsC x 0) 65) = W at hk0 hk1 hB ⊢
  obtain ⟨n0, hn0⟩ : ∃ n0, w.heap.size = n0 := ⟨_, rfl⟩
  rw [hn0] at hk0 hk1 hB ⊢
  have HN := hide hn0
  clear hn0
  go_loopw [0, 4] (fun v i wr => ∃ k : Nat, k ≤ 64 ∧ i = .int .i64 k ∧ v = .int .u64 (x / 2 ^ k) ∧ Blk wr n0 65 (bitsC x 0) ∧ Blk wr (n0 + 1) 65 (bitsC x k) ∧ Below n0 w wr) (fun _ i _ => 64 - (intOf i).toNat)
  case atStart => exact ⟨0, by omega, rfl, by simp, hk0, hk1, hB⟩
  case round =>
    obtain ⟨k, hk, rfl, rfl, hk0, hk1, hB⟩ := hrel
    by_cases hlt : k < 64
    · have hd := div_bd x0 x1 k
      have h1 : bits .and .u64 (x / 2 ^ k) 1 = x / 2 ^ k % 2 := and_one hd.1 hd.2
      obtain ⟨v, hv⟩ := bitsC_get (x := x) (k := k) hlt
      have hc := (hk1.cell k).trans hv
      have hf := hk1.frozen k
      have HK0 := hide hk0
      have HK1 := hide hk1
      clear hk0 hk1 hv
      go_wp2
      go_roundw
      case rel => exact ⟨k + 1, by omega, by go_num, by rw [mul_div_pow], HK0.out.far (by simp) _, by rw [← bitsC_set]; exact HK1.out.set_ k _, hB.setCell (by simp) _⟩
      case measure => simp [intOf]; omega
    · obtain rfl : k = 64 := by omega
      rw [bitsC_all] at hk1
      have hi : (Try.prog.info? 65).map (·.size) = some (bitsA x).size := by rw [bitsA_size]; exact infoA
      have HK0 := hide hk0
      clear hk0
      go_wp2_with (first
        | (refine wpList_load_row rfl 65 _ rfl (n0 + 1) rfl 65 _ _ _ hk1 Try.underlying65 rfl hi ?_)
        | (refine wpList_store_row rfl 65 _ _ rfl n0 (bitsA x) rfl rfl 65 _ HK0.out hi ((bitsC_size x 0).trans (bitsA_size x).symm) (bits_one x) ?_))
      exact bodyPost_ret (results_cell_row rfl _ _ n0 65 (bitsA x) (0, 0) _ rfl (setRow_heap _ _ _ _ _ _ HK0.out) Try.underlying65 rfl hi) rfl ⟨rfl, by rw [HN.out]; exact below_setRow hB (Nat.le_refl _) _⟩

/-! Number: the field of n bits at a. -/
theorem num_step {x : Int} {a n : Nat} : x / 2 ^ (a + 1) % 2 ^ n * 2 + x / 2 ^ a % 2 = x / 2 ^ a % 2 ^ (n + 1) := by
  rw [← mul_div_pow]
  generalize x / 2 ^ a = y
  rw [Int.pow_succ, Int.mul_comm (2 ^ n) 2]
  have h1 := Int.mul_ediv_add_emod y 2
  have h2 := Int.mul_ediv_add_emod (y / 2) (2 ^ n)
  have hp : (0 : Int) < 2 ^ n := Int.pow_pos (by omega)
  have hm := Int.emod_lt_of_pos (y / 2) hp
  have hm0 := Int.emod_nonneg (y / 2) (show (2 : Int) ^ n ≠ 0 by omega)
  have e : y = (2 * 2 ^ n) * (y / 2 / 2 ^ n) + (y / 2 % 2 ^ n * 2 + y % 2) := by
    rw [Int.mul_assoc]
    omega
  have h3 : 0 ≤ y % 2 ∧ y % 2 < 2 := ⟨Int.emod_nonneg _ (by omega), Int.emod_lt_of_pos _ (by omega)⟩
  have key : ((2 * 2 ^ n) * (y / 2 / 2 ^ n) + (y / 2 % 2 ^ n * 2 + y % 2)) % (2 * 2 ^ n) = y / 2 % 2 ^ n * 2 + y % 2 := by
    rw [Int.mul_add_emod_self_left, Int.emod_eq_of_lt (by omega) (by omega)]
  rw [← e] at key
  exact key.symm
set_option maxRecDepth 100000 in
set_option maxHeartbeats 1000000 in
theorem number_any (x a n : Int) (hm : MayF a n) (w : World) :
    Calls Try.prog 47 #[.agg (bitsA x), .int .i64 a, .int .i64 n] w fun e w' => e = .returned (.int .u64 (fldV x a n)) ∧ Below w.heap.size w w' := by
  obtain ⟨a0, a1, n0, n1, han⟩ := hm
  obtain ⟨a, rfl⟩ := Int.eq_ofNat_of_zero_le a0
  obtain ⟨n, rfl⟩ := Int.eq_ofNat_of_zero_le (show 0 ≤ n by omega)
  unfold fldV
  simp only [Int.toNat_natCast]
  go_enter Try.func47, Try.ntmps47
  go_wp2_with fail
  have hk := Blk.new w 65 (bitsA x)
  have hB : Below w.heap.size w (w.alloc (.cells (bitsA x) 65)) := (Below.refl _ _).alloc (Nat.le_refl _) _
  generalize w.alloc (.cells (bitsA x) 65) = W at hk hB ⊢
  obtain ⟨g, hg⟩ : ∃ g, w.heap.size = g := ⟨_, rfl⟩
  rw [hg] at hk hB ⊢
  have HG := hide hg
  clear hg
  go_loop [7, 8] (fun v i => ∃ k : Nat, k ≤ n ∧ i = .int .i64 ((k : Int) - 1) ∧ v = .int .u64 (x / 2 ^ (a + k) % 2 ^ (n - k))) (fun _ i => (intOf i + 1).toNat)
  case atStart => exact ⟨n, Nat.le_refl _, rfl, by simp⟩
  case round =>
    obtain ⟨k, hk1, rfl, rfl⟩ := hrel
    have hp : (0 : Int) < 2 ^ (n - k) := Int.pow_pos (by omega)
    have y0 : 0 ≤ x / 2 ^ (a + k) % 2 ^ (n - k) := Int.emod_nonneg _ (by omega)
    have y1 : x / 2 ^ (a + k) % 2 ^ (n - k) < 2 ^ (n - k) := Int.emod_lt_of_pos _ hp
    cases k with
    | zero =>
      go_wp2
      go_ret
      refine ⟨?_, by rw [HG.out]; exact hB⟩
      simp
    | succ k =>
      have y2 : (2 : Int) ^ (n - (k + 1)) ≤ 9223372036854775808 := by
        have h := Nat.pow_le_pow_right (n := 2) (by omega) (show n - (k + 1) ≤ 63 by omega)
        have h2 := Int.ofNat_le.2 h
        rw [Int.natCast_pow] at h2
        exact h2
      have hst := @num_step x (a + k) (n - (k + 1))
      rw [show n - (k + 1) + 1 = n - k by omega] at hst
      have HS := hide hst
      clear hst hp
      have hc : W.cell? ⟨g, a + k, none⟩ = some (.int .i64 (x / 2 ^ (a + k) % 2)) := (hk.cell (a + k)).trans (bitsA_get (by omega))
      have b0 : 0 ≤ x / 2 ^ (a + k) % 2 := Int.emod_nonneg _ (by omega)
      have b1 : x / 2 ^ (a + k) % 2 < 2 := Int.emod_lt_of_pos _ (by omega)
      rw [show a + (k + 1) = a + k + 1 from rfl] at y0 y1 ⊢
      generalize x / 2 ^ (a + k + 1) % 2 ^ (n - (k + 1)) = y at y0 y1 HS ⊢
      generalize x / 2 ^ (a + k) % 2 = b at hc b0 b1 HS
      have y3 : y < 9223372036854775808 := Int.lt_of_lt_of_le y1 y2
      clear y1 y2
      go_wp2
      go_round
      case rel => exact ⟨k, by omega, rfl, by rw [HS.out]⟩
      case measure => simp [intOf]

/-! What is put in, bit by bit. -/
theorem put_nat (x a n v : Nat) : putV (x : Int) (a : Int) (n : Int) (v : Int) = ((2 ^ a * (2 ^ n * (x / 2 ^ (a + n)) + v) + x % 2 ^ a : Nat) : Int) := by
  have hsplit : x = 2 ^ a * (2 ^ n * (x / 2 ^ (a + n)) + x / 2 ^ a % 2 ^ n) + x % 2 ^ a := by
    have h1 := Nat.div_add_mod x (2 ^ a)
    have h2 := Nat.div_add_mod (x / 2 ^ a) (2 ^ n)
    rw [Nat.div_div_eq_div_mul, ← Nat.pow_add] at h2
    rw [h2]; omega
  unfold putV
  simp only [Int.toNat_natCast]
  have c : (x : Int) / 2 ^ a % 2 ^ n * 2 ^ a = ((2 ^ a * (x / 2 ^ a % 2 ^ n) : Nat) : Int) := by push_cast; rw [Int.mul_comm]
  have c2 : (v : Int) * 2 ^ a = ((2 ^ a * v : Nat) : Int) := by push_cast; rw [Int.mul_comm]
  rw [c, c2]
  rw [Nat.mul_add] at hsplit ⊢
  omega
theorem bit_of_test {x y i j : Nat} (h : x.testBit i = y.testBit j) : (x : Int) / 2 ^ i % 2 = (y : Int) / 2 ^ j % 2 := by
  have e1 : (x : Int) / 2 ^ i % 2 = ((x / 2 ^ i % 2 : Nat) : Int) := by push_cast; rfl
  have e2 : (y : Int) / 2 ^ j % 2 = ((y / 2 ^ j % 2 : Nat) : Int) := by push_cast; rfl
  rw [Nat.testBit_eq_decide_div_mod_eq, Nat.testBit_eq_decide_div_mod_eq, decide_eq_decide] at h
  rw [e1, e2]
  omega
theorem put_bit {x v : Int} {a n : Nat} (x0 : 0 ≤ x) (v0 : 0 ≤ v) (v1 : v < 2 ^ n) (j : Nat) :
    putV x (a : Int) (n : Int) v / 2 ^ j % 2 = if a ≤ j ∧ j < a + n then v / 2 ^ (j - a) % 2 else x / 2 ^ j % 2 := by
  obtain ⟨x, rfl⟩ := Int.eq_ofNat_of_zero_le x0
  obtain ⟨v, rfl⟩ := Int.eq_ofNat_of_zero_le v0
  have hv : v < 2 ^ n := by
    have : (v : Int) < ((2 ^ n : Nat) : Int) := by rw [Int.natCast_pow]; exact v1
    omega
  have hlo : x % 2 ^ a < 2 ^ a := Nat.mod_lt _ (Nat.two_pow_pos _)
  rw [put_nat]
  by_cases h1 : a ≤ j
  · by_cases h2 : j < a + n
    · rw [if_pos ⟨h1, h2⟩]
      apply bit_of_test
      rw [Nat.testBit_two_pow_mul_add _ hlo, if_neg (by omega), Nat.testBit_two_pow_mul_add _ hv, if_pos (by omega)]
    · rw [if_neg (by omega)]
      apply bit_of_test
      rw [Nat.testBit_two_pow_mul_add _ hlo, if_neg (by omega), Nat.testBit_two_pow_mul_add _ hv, if_neg (by omega), Nat.testBit_div_two_pow]
      congr 1
      omega
  · rw [if_neg (by omega)]
    apply bit_of_test
    rw [Nat.testBit_two_pow_mul_add _ hlo, if_pos (by omega), Nat.testBit_mod_two_pow]
    simp [show j < a by omega]
def mixA (x v : Int) (a k : Nat) : Array Value := Array.ofFn (n := 64) fun j => if a ≤ j.val ∧ j.val < a + k then bitV v (j.val - a) else bitV x j.val
theorem mixA_size (x v : Int) (a k : Nat) : (mixA x v a k).size = 64 := by simp [mixA]
theorem mixA_zero (x v : Int) (a : Nat) : mixA x v a 0 = bitsA x := by
  apply Array.ext
  · simp [mixA, bitsA]
  · intro i h1 h2
    have : ¬ (a ≤ i ∧ i < a) := by omega
    simp [mixA, bitsA, this]
theorem mixA_set (x v : Int) (a k : Nat) : (mixA x v a k).setIfInBounds (a + k) (bitV v k) = mixA x v a (k + 1) := by
  apply Array.ext
  · simp [mixA]
  · intro i h1 h2
    have hi : i < 64 := by simpa [mixA] using h2
    rw [Array.getElem_setIfInBounds (by simpa using h1)]
    by_cases e : a + k = i
    · subst e
      have h3 : a + k < a + (k + 1) := by omega
      simp [mixA, h3]
    · have : (a ≤ i ∧ i < a + (k + 1)) = (a ≤ i ∧ i < a + k) := by apply propext; omega
      simp [mixA, e, this]
theorem mixA_all {x v : Int} {a n : Nat} (x0 : 0 ≤ x) (v0 : 0 ≤ v) (v1 : v < 2 ^ n) : mixA x v a n = bitsA (putV x (a : Int) (n : Int) v) := by
  apply Array.ext
  · simp [mixA, bitsA]
  · intro i h1 h2
    have hb := put_bit (a := a) x0 v0 v1 i
    simp only [mixA, bitsA, Array.getElem_ofFn, bitV]
    rw [hb]
    split <;> rfl
theorem mixA_get {x v : Int} {a k j : Nat} (hj : j < 64) : ∃ u, (mixA x v a k)[j]? = some u := ⟨_, Array.getElem?_eq_getElem (by simp [mixA, hj])⟩

/-! wrong, Fits, Ones -/
theorem wrong_no (a n : Int) (w : World) (h : MayF a n) : Calls Try.prog 46 #[.int .i64 a, .int .i64 n] w fun e w' => e = .returned (.bool false) ∧ w = w' := by
  obtain ⟨h1, h2, h3, h4, h5⟩ := h
  go_enter Try.func46, Try.ntmps46
  go_wp2
  go_ret
  exact ⟨by simp; omega, rfl⟩
theorem wrong_yes (a n : Int) (w : World) (h : ¬ MayF a n) : Calls Try.prog 46 #[.int .i64 a, .int .i64 n] w fun e w' => e = .returned (.bool true) ∧ w = w' := by
  unfold MayF at h
  by_cases h1 : 0 ≤ a
  · by_cases h2 : a ≤ 63
    · by_cases h3 : 1 ≤ n
      · by_cases h4 : n ≤ 64
        · have h5 : 64 - a < n := by omega
          clear h
          go_enter Try.func46, Try.ntmps46
          go_wp2
          go_ret
          exact ⟨by simp, rfl⟩
        · clear h
          go_enter Try.func46, Try.ntmps46
          go_wp2
          go_ret
          exact ⟨rfl, rfl⟩
      · clear h
        go_enter Try.func46, Try.ntmps46
        go_wp2
        go_ret
        exact ⟨rfl, rfl⟩
    · clear h
      go_enter Try.func46, Try.ntmps46
      go_wp2
      go_ret
      exact ⟨rfl, rfl⟩
  · clear h
    go_enter Try.func46, Try.ntmps46
    go_wp2
    go_ret
    exact ⟨rfl, rfl⟩
theorem rones_any (n : Int) (w : World) : Calls Try.prog 34 #[.int .i64 n] w fun e w' => e = .returned (.int .u64 (onesV n)) ∧ w = w' := by
  by_cases h : n ≤ 0
  · have e : onesV n = 0 := by unfold onesV; rw [if_pos h]
    rw [e]; clear e
    go_enter Try.func34, Try.ntmps34
    go_wp2_with fail
    refine wp_loop_rounds 1 ?_
    rw [rounds_succ]
    go_wp2_with fail
    go_ret
    exact ⟨rfl, rfl⟩
  have hn : 1 ≤ n := by omega
  clear h
  go_enter Try.func34, Try.ntmps34
  go_wp2_with fail
  go_loop [3, 4] (fun v i => ∃ k : Nat, (k : Int) ≤ n ∧ k ≤ 64 ∧ i = .int .i64 k ∧ v = .int .u64 (2 ^ k - 1)) (fun _ i => 64 - (intOf i).toNat)
  case atStart => exact ⟨0, by omega, by omega, rfl, by simp⟩
  case round =>
    obtain ⟨k, hk, hk2, rfl, rfl⟩ := hrel
    have hp : (0 : Int) < 2 ^ k := Int.pow_pos (by omega)
    have H2 : Hid ((2 : Int) ^ (k + 1) = 2 ^ k * 2) := Int.pow_succ 2 k
    by_cases h1 : (k : Int) < n
    · by_cases h2 : k < 64
      · have h3 : (2 : Int) ^ k ≤ 9223372036854775808 := by
          have h := Nat.pow_le_pow_right (n := 2) (by omega) (show k ≤ 63 by omega)
          have h2 := Int.ofNat_le.2 h
          rw [Int.natCast_pow] at h2
          exact h2
        obtain ⟨p, hpp⟩ : ∃ p : Int, (2 : Int) ^ k = p := ⟨_, rfl⟩
        rw [hpp] at hp h3 H2 ⊢
        have HP := hide hpp
        clear hpp
        go_wp2
        go_round
        case rel => exact ⟨k + 1, by omega, by omega, by go_num, by rw [H2.out]; congr 1; omega⟩
        case measure => simp [intOf]; omega
      · obtain rfl : k = 64 := by omega
        have e : onesV n = 2 ^ 64 - 1 := by unfold onesV; rw [if_neg (by omega), if_pos (by omega)]; rfl
        have E := hide e
        clear e
        go_wp2
        go_ret
        exact ⟨by rw [E.out]; rfl, rfl⟩
    · obtain rfl : n = (k : Int) := by omega
      have e : onesV (k : Int) = 2 ^ k - 1 := by
        rw [ones_nat hn (by omega), Int.toNat_natCast, Int.natCast_sub (Nat.two_pow_pos _), Int.natCast_pow]; rfl
      have E := hide e
      clear e
      go_wp2
      go_ret
      exact ⟨by rw [E.out]; rfl, rfl⟩

theorem fits_fit {v n : Int} (h : ∀ j, j < 64 → bitB v j = true → (j : Int) < n) : fitsB v n = true := by
  unfold fitsB
  rw [List.all_eq_true]
  intro y hy
  simp only [onesTo, List.mem_filter, List.mem_range] at hy
  exact decide_eq_true (h y hy.1 hy.2)
theorem fits_not {v n : Int} {j : Nat} (hj : j < 64) (hb : bitB v j = true) (hn : ¬ (j : Int) < n) : fitsB v n = false := by
  unfold fitsB
  rw [List.all_eq_false]
  exact ⟨j, by simp only [onesTo, List.mem_filter, List.mem_range]; exact ⟨hj, hb⟩, by simpa using hn⟩
set_option maxRecDepth 100000 in
set_option maxHeartbeats 1000000 in
theorem rfits_any (v n : Int) (v0 : 0 ≤ v) (v1 : v < 18446744073709551616) (w : World) :
    Calls Try.prog 36 #[.int .u64 v, .int .i64 n] w fun e w' => e = .returned (.bool (decide (v < 2 ^ n.toNat))) ∧ Below w.heap.size w w' := by
  have hi : (Try.prog.info? 65).map (·.size) = some (bitsA v).size := by rw [bitsA_size]; exact infoA
  have z0 : (#[.int .i64 0, .int .i64 0, .int .i64 0, .int .i64 0, .int .i64 0, .int .i64 0, .int .i64 0, .int .i64 0, .int .i64 0, .int .i64 0, .int .i64 0, .int .i64 0, .int .i64 0, .int .i64 0, .int .i64 0, .int .i64 0, .int .i64 0, .int .i64 0, .int .i64 0, .int .i64 0, .int .i64 0, .int .i64 0, .int .i64 0, .int .i64 0, .int .i64 0, .int .i64 0, .int .i64 0, .int .i64 0, .int .i64 0, .int .i64 0, .int .i64 0, .int .i64 0,
    .int .i64 0, .int .i64 0, .int .i64 0, .int .i64 0, .int .i64 0, .int .i64 0, .int .i64 0, .int .i64 0, .int .i64 0, .int .i64 0, .int .i64 0, .int .i64 0, .int .i64 0, .int .i64 0, .int .i64 0, .int .i64 0, .int .i64 0, .int .i64 0, .int .i64 0, .int .i64 0, .int .i64 0, .int .i64 0, .int .i64 0, .int .i64 0, .int .i64 0, .int .i64 0, .int .i64 0, .int .i64 0, .int .i64 0, .int .i64 0, .int .i64 0, .int .i64 0] : Array Value) = bitsC v 0 := by kernel_rfl
  rw [← fits_iff v0 v1]
  go_enter Try.func36, Try.ntmps36
  go_wp2_with fail
  refine (rbits_any v v0 v1 _).mono ?_
  rintro e w1 ⟨rfl, hb1⟩
  go_wp2_with (refine wpList_store_row rfl 65 _ _ rfl w1.heap.size (bitsA v) rfl rfl 65 _ (heap_alloc_new w1 _) hi ((bitsC_size v 0).trans (bitsA_size v).symm) (bits_one v) ?_)
  clear z0
  have hk : Blk ((w1.alloc (.cells (bitsC v 0) 65)).setRow w1.heap.size (bitsA v)) w1.heap.size 65 (bitsA v) := setRow_heap _ _ _ _ _ _ (heap_alloc_new w1 _)
  have hB : Below w.heap.size w ((w1.alloc (.cells (bitsC v 0) 65)).setRow w1.heap.size (bitsA v)) := below_setRow (hb1.alloc hb1.size _) hb1.size _
  generalize (w1.alloc (.cells (bitsC v 0) 65)).setRow w1.heap.size (bitsA v) = W at hk hB ⊢
  obtain ⟨g, hg⟩ : ∃ g, w1.heap.size = g := ⟨_, rfl⟩
  rw [hg] at hk ⊢
  clear hg hb1 hi
  go_loop [6] (fun i => ∃ k : Nat, k ≤ 64 ∧ i = .int .i64 k ∧ ∀ j, j < k → bitB v j = true → (j : Int) < n) (fun i => 64 - (intOf i).toNat)
  case atStart => exact ⟨0, by omega, rfl, fun j hj => absurd hj (by omega)⟩
  case round =>
    obtain ⟨k, hk1, rfl, hall⟩ := hrel
    have HA := hide hall
    clear hall
    by_cases hlt : k < 64
    · have hc : W.cell? ⟨g, k, none⟩ = some (.int .i64 (v / 2 ^ k % 2)) := (hk.cell k).trans (bitsA_get hlt)
      cases hbit : bitB v k with
      | true =>
        have t1 : (v / 2 ^ k % 2 == 1) = true := hbit
        have HBt := hide hbit
        clear hbit
        by_cases hn : n ≤ (k : Int)
        · have e := hide (fits_not (v := v) (n := n) hlt HBt.out (by omega))
          go_wp2
          go_ret
          exact ⟨by rw [e.out]; rfl, hB⟩
        · go_wp2
          go_round
          case rel => exact ⟨k + 1, by omega, by go_num, fun j hj hb => by
            by_cases e : j = k
            · subst e; omega
            · exact HA.out j (by omega) hb⟩
          case measure => simp [intOf]; omega
      | false =>
        have t1 : (v / 2 ^ k % 2 == 1) = false := hbit
        have HBt := hide hbit
        clear hbit
        go_wp2
        go_round
        case rel => exact ⟨k + 1, by omega, by go_num, fun j hj hb => by
          by_cases e : j = k
          · subst e; rw [HBt.out] at hb; cases hb
          · exact HA.out j (by omega) hb⟩
        case measure => simp [intOf]; omega
    · obtain rfl : k = 64 := by omega
      have e := hide (fits_fit (v := v) (n := n) HA.out)
      go_wp2
      go_ret
      exact ⟨by rw [e.out]; rfl, hB⟩

end Go.Proofs.Ytdmpdfogilcjnaa
