/- The walks of package word: may, Ones, bits, Fits, Field, With, each at every argument of its types. -/
import Derived.Test.YtlfenakabedmfaaWordLaw
import Derived.RangeFuncNested
import Derived.RangeFuncBound
import Derived.RangeFuncCalls
import Derived.RangeFuncLeaves
import Derived.Shelf.Abstract
import Derived.Shelf.RegionOpen
import Derived.OwnWalkIn
import Derived.TacticsInMore
import Derived.LoopNIn
import Derived.LoopIn
import Derived.Outline
namespace Go.Proofs.Ytlfenakabedmfaa
open Go.RowKit Go.Shelf
attribute [local go_sem] Oper.semAt_some

theorem may_yes (a n : Int) (w : World) (h : MayF a n) :
    Calls Try.prog 99 #[.int .i64 a, .int .i64 n] w fun e w' => e = .returned (.bool true) ∧ w = w' := by
  obtain ⟨h1, h2, h3, h4, h5⟩ := h
  go_enter Try.func99, Try.ntmps99
  go_wp2
  go_ret
  exact ⟨by simp, rfl⟩
theorem may_no (a n : Int) (w : World) (h : ¬ MayF a n) :
    Calls Try.prog 99 #[.int .i64 a, .int .i64 n] w fun e w' => e = .returned (.bool false) ∧ w = w' := by
  unfold MayF at h
  by_cases h1 : 0 ≤ a
  · by_cases h2 : a ≤ 63
    · by_cases h3 : 1 ≤ n
      · by_cases h4 : n ≤ 64
        · have h5 : ¬ a + n ≤ 64 := by omega
          clear h
          go_enter Try.func99, Try.ntmps99
          go_wp2
          go_ret
          exact ⟨by simp, rfl⟩
        · clear h
          go_enter Try.func99, Try.ntmps99
          go_wp2
          go_ret
          exact ⟨rfl, rfl⟩
      · clear h
        go_enter Try.func99, Try.ntmps99
        go_wp2
        go_ret
        exact ⟨rfl, rfl⟩
    · clear h
      go_enter Try.func99, Try.ntmps99
      go_wp2
      go_ret
      exact ⟨rfl, rfl⟩
  · clear h
    go_enter Try.func99, Try.ntmps99
    go_wp2
    go_ret
    exact ⟨rfl, rfl⟩

theorem ones_mid_eq {n : Int} (h : 1 ≤ n) (h2 : n < 64) : IntKind.u64.wrap (IntKind.u64.wrap (2 ^ n.toNat) - 1) = onesV n := by
  rw [ones_nat h (by omega), IntKind.wrap_u64, IntKind.wrap_u64]
  have h3 : 2 ^ n.toNat ≤ 2 ^ 63 := Nat.pow_le_pow_right (by omega) (by omega)
  have h4 : 0 < 2 ^ n.toNat := Nat.two_pow_pos _
  have e : (2 : Int) ^ n.toNat = ((2 ^ n.toNat : Nat) : Int) := by rw [Int.natCast_pow]; rfl
  rw [e]
  simp only [Nat.reducePow] at h3
  omega
theorem ones_any (n : Int) (w : World) :
    Calls Try.prog 100 #[.int .i64 n] w fun e w' => e = .returned (.int .u64 (onesV n)) ∧ w = w' := by
  by_cases h : n ≤ 0
  · have e : onesV n = 0 := by unfold onesV; rw [if_pos h]
    rw [e]; clear e
    go_enter Try.func100, Try.ntmps100
    go_wp2
    go_ret
    exact ⟨rfl, rfl⟩
  · by_cases h2 : 64 ≤ n
    · have e : onesV n = 18446744073709551615 := by unfold onesV; rw [if_neg h, if_pos h2]
      rw [e]; clear e
      go_enter Try.func100, Try.ntmps100
      go_wp2
      go_ret
      exact ⟨rfl, rfl⟩
    · have h1 : 1 ≤ n := by omega
      have h3 : n < 64 := by omega
      rw [← ones_mid_eq h1 h3]
      clear h2 h
      go_enter Try.func100, Try.ntmps100
      go_wp2
      go_ret
      exact ⟨rfl, rfl⟩

/-! A new cell reads as it was laid; a cell stays behind a new block. -/
theorem cell_of_box_l {W : World} {B : Nat} {v : Value} {t : TypeId} (h : W.heap[B]? = some (.cells #[v] t (0, 0))) : W.cell? ⟨B, 0, none⟩ = some v ∧ W.frozen? ⟨B, 0, none⟩ = false := by
  constructor <;> simp [World.cell?, World.frozen?, h]
theorem cell_new_l (W : World) (v : Value) (t : TypeId) : (W.alloc (.cells #[v] t)).cell? ⟨W.heap.size, 0, none⟩ = some v ∧ (W.alloc (.cells #[v] t)).frozen? ⟨W.heap.size, 0, none⟩ = false :=
  cell_of_box_l (World.alloc_heap_new W _)
theorem cell_alloc_l {W : World} {a : Addr} {v : Value} (o : Obj) (h : W.cell? a = some v) : (W.alloc o).cell? a = some v := cell_kept h (World.grownBy_alloc W o none) (fun r e => by cases e)
theorem frozen_alloc_l {W : World} {a : Addr} {v : Value} (o : Obj) (h : W.cell? a = some v) (hf : W.frozen? a = false) : (W.alloc o).frozen? a = false := (frozen_kept h (World.grownBy_alloc W o none) (fun r e => by cases e)).trans hf

/-! The places of a word's ones, one by one. -/
def bitB (v : Int) (i : Nat) : Bool := v / 2 ^ i % 2 == 1
def onesTo (v : Int) (k : Nat) : List Nat := (List.range k).filter (bitB v)
theorem onesTo_succ_yes {v : Int} {k : Nat} (h : bitB v k = true) : onesTo v (k + 1) = onesTo v k ++ [k] := by simp [onesTo, List.range_succ, List.filter_append, h]
theorem onesTo_succ_no {v : Int} {k : Nat} (h : bitB v k = false) : onesTo v (k + 1) = onesTo v k := by simp [onesTo, List.range_succ, List.filter_append, h]
theorem onesTo_len (v : Int) (k : Nat) : (onesTo v k).length ≤ k := by
  have := List.length_filter_le (bitB v) (List.range k)
  simpa [onesTo] using this
theorem and_one {x : Int} (h0 : 0 ≤ x) (h1 : x < 18446744073709551616) : bits .and .u64 x 1 = x % 2 := by
  rw [u64_and x 1 h0 h1 (by omega) (by omega)]
  obtain ⟨k, rfl⟩ := Int.eq_ofNat_of_zero_le h0
  have := nat_mask1 k
  simp
theorem div_bd {x : Int} (h0 : 0 ≤ x) (h1 : x < 18446744073709551616) (k : Nat) : 0 ≤ x / 2 ^ k ∧ x / 2 ^ k < 18446744073709551616 := by
  have hp : (0 : Int) < 2 ^ k := Int.pow_pos (by omega)
  refine ⟨Int.ediv_nonneg h0 (by omega), ?_⟩
  have := Int.ediv_le_self (2 ^ k) h0
  omega

set_option maxRecDepth 100000 in
set_option maxHeartbeats 1000000 in
theorem bits1_in (F : Fence) (n : Nat) (hf : F.fn 107) (hro : F.round = none) (hn : 1 ≤ n) (l Bs n₀ : Nat) (v : Int) (v0 : 0 ≤ v) (v1 : v < 18446744073709551616) (hb : Bs < n₀) (J Jx : List Nat → World → Prop)
    (hY : ∀ pre (x : Nat) W, J pre W → pre.length < 64 → YieldAt F (n - 1) Try.prog l #[.int .i64 (x : Int)] W fun e W' =>
      (e = .returned (.bool true) ∧ J (pre ++ [x]) W' ∧ Below n₀ W W') ∨ (e = .returned (.bool false) ∧ Jx (pre ++ [x]) W'))
    (W : World) (hBs : W.cell? ⟨Bs, 0, none⟩ = some (.int .u64 v)) (h0 : J [] W) :
    CallsIn F n Try.prog 107 #[.func (.yield l) #[] #[], .pointer (some ⟨Bs, 0, none⟩)] W fun e W' => (∃ v, e = .returned v) ∧
      ((∃ ys, ys = onesTo v 64 ∧ J ys W') ∨ (∃ pre, (∃ k, k < 64 ∧ bitB v k = true ∧ pre = onesTo v k ++ [k]) ∧ Jx pre W')) := by
  refine callsIn_of_wp Try.func107 rfl hf ?_ hro
  simp only [Try.ntmps107, List.size_toArray, List.length_cons, List.length_nil, Nat.reduceAdd, Nat.reduceSub, Array.replicate_succ, Array.replicate_zero, List.push_toArray, List.append_toArray, List.nil_append, List.cons_append]
  gi_wp2
  gi_loopw [4] (fun i wr => ∃ k : Nat, k ≤ 64 ∧ i = .int .i64 k ∧ J (onesTo v k) wr ∧ Below n₀ W wr) (fun i _ => 64 - (intOf i).toNat)
  case atStart => exact ⟨0, Nat.zero_le _, rfl, h0, Below.refl _ _⟩
  case round =>
    obtain ⟨k, hk, rfl, hJs, hnx⟩ := hrel
    have hc : wr.cell? ⟨Bs, 0, none⟩ = some (.int .u64 v) := (hnx.cell (p := ⟨Bs, 0, none⟩) hb).trans hBs
    by_cases hlt : k < 64
    · have hd := div_bd v0 v1 k
      cases hbit : bitB v k with
      | true =>
        have hg : (bits .and .u64 (v / 2 ^ k) 1 == 1) = true := by rw [and_one hd.1 hd.2]; exact hbit
        obtain ⟨fn, tmps, assign, body, hy, hR⟩ := hY _ k wr hJs (Nat.lt_of_le_of_lt (onesTo_len v k) hlt)
        have HB := hide hbit
        clear hbit
        gi_wp2
        refine hR.mono ?_
        rintro e W3 (⟨rfl, hJ3, hk3⟩ | ⟨rfl, hJx3⟩)
        · gi_wp2
          go_roundw
          case rel => exact ⟨k + 1, by omega, by simp, by rw [onesTo_succ_yes HB.out]; exact hJ3, hnx.trans hk3⟩
          case measure => simp [intOf]; omega
        · gi_wp2
          refine bodyPost_ret (results_none rfl _ _ _) rfl ?_
          exact ⟨⟨_, rfl⟩, .inr ⟨_, ⟨k, hlt, HB.out, rfl⟩, hJx3⟩⟩
      | false =>
        have hg : (bits .and .u64 (v / 2 ^ k) 1 == 1) = false := by rw [and_one hd.1 hd.2]; exact hbit
        have HB := hide hbit
        clear hbit
        gi_wp2
        refine ⟨fun _ h => (by cases h), ?_⟩
        gi_wp2
        go_roundw
        case rel => exact ⟨k + 1, by omega, by simp, by rw [onesTo_succ_no HB.out]; exact hJs, hnx⟩
        case measure => simp [intOf]; omega
    · obtain rfl : k = 64 := by omega
      gi_wp2
      go_end0
      exact ⟨⟨_, rfl⟩, .inl ⟨_, rfl, hJs⟩⟩

set_option maxHeartbeats 1000000 in
theorem bits_in (F : Fence) (n : Nat) (hf : F.fn 105) (hro : F.round = none) (v : Int) (w : World) :
    CallsIn F n Try.prog 105 #[.int .u64 v] w fun e w' => e = .returned (.func (.func 107) #[] #[.pointer (some ⟨w.heap.size, 0, none⟩)]) ∧ w' = w.alloc (.cells #[.int .u64 v] 32) := by
  refine callsIn_of_wp Try.func105 rfl hf ?_ hro
  simp only [Try.ntmps105, List.size_toArray, List.length_cons, List.length_nil, Nat.reduceAdd, Nat.reduceSub, Array.replicate_succ, Array.replicate_zero, List.push_toArray, List.append_toArray, List.nil_append, List.cons_append]
  gi_wp2
  go_ret
  exact ⟨rfl, rfl⟩
theorem bits_stops (F : Fence) (n : Nat) (hf : F.fn 107) (hro : F.round = none) (hn : 1 ≤ n) (Bs n₀ : Nat) (v : Int) (v0 : 0 ≤ v) (v1 : v < 18446744073709551616) (w : World) (hBs : Bs < w.heap.size) (hb : Bs < n₀)
    (hc : w.cell? ⟨Bs, 0, none⟩ = some (.int .u64 v)) :
    SeqStopsK F n Try.prog 107 #[.pointer (some ⟨Bs, 0, none⟩)] (fun x : Nat => #[Value.int .i64 (x : Int)]) (Below n₀) (fun ys => ys = onesTo v 64)
      (fun pre => ∃ k, k < 64 ∧ bitB v k = true ∧ pre = onesTo v k ++ [k]) 64 w := fun l J Jx W hW _ _ hY h0 => by
  have hc' := (hW.cell (p := ⟨Bs, 0, none⟩) hBs).trans hc
  exact bits1_in F n hf hro hn l Bs n₀ v v0 v1 hb J Jx hY W hc' h0

/-! Fits: the places of ones are all below n. -/
def fitsB (v n : Int) : Bool := (onesTo v 64).all fun i => decide ((i : Int) < n)
set_option maxRecDepth 100000 in
set_option maxHeartbeats 1000000 in
theorem fits_in (F : Fence) (m : Nat) (hf : F.fn 101) (hf2 : F.fn 105) (hf3 : F.fn 107) (hro : F.round = none) (hm : 3 ≤ m) (v n : Int) (v0 : 0 ≤ v) (v1 : v < 18446744073709551616) (w : World) :
    CallsIn F m Try.prog 101 #[.int .u64 v, .int .i64 n] w fun e W' => e = .returned (.bool (fitsB v n)) ∧ Below w.heap.size w W' := by
  have h1 : 1 ≤ m := by omega
  refine callsIn_of_wp_marks Try.func101 rfl hf ?_ hro
  simp only [Try.ntmps101, List.size_toArray, List.length_cons, List.length_nil, Nat.reduceAdd, Nat.reduceSub, Array.replicate_succ, Array.replicate_zero, List.push_toArray, List.append_toArray, List.nil_append, List.cons_append]
  gi_wp2_with (gi_at_call 105; refine (bits_in F (m - 1) hf2 hro _ _).mono ?_; rintro e w' ⟨rfl, rfl⟩)
  have c0 := cell_new_l w (.int .i64 n) 3
  have c1 := cell_new_l (w.alloc (.cells #[.int .i64 n] 3)) (.bool false) 4
  have c2 := cell_new_l ((w.alloc (.cells #[.int .i64 n] 3)).alloc (.cells #[.bool false] 4)) (.int .u64 v) 32
  simp only [World.size_alloc] at c1 c2
  have hB0 : Below w.heap.size w (((w.alloc (.cells #[.int .i64 n] 3)).alloc (.cells #[.bool false] 4)).alloc (.cells #[.int .u64 v] 32)) := (((Below.refl _ w).alloc (Nat.le_refl _) _).alloc (by simp) _).alloc (by simp; omega) _
  refine wpIn_rangeFunc_ownF hro h1 (gf := 107) (lb := #[.pointer (some ⟨w.heap.size + 1 + 1, 0, none⟩)]) rfl hf3 (enters_of Try.func107 (by kernel_rfl) rfl)
    (bits_stops F (m - 1) hf3 hro (by omega) (w.heap.size + 1 + 1) (w.heap.size + 1 + 1 + 1) v v0 v1 _ (by simp) (by omega) c2.1) belowK_t (belowK_b (by simp)) (Below.refl _ _) (fun _ => rfl)
    (fun pre W => ((∀ y ∈ pre, (y : Int) < n) ∧ W.cell? ⟨w.heap.size, 0, none⟩ = some (.int .i64 n) ∧ W.cell? ⟨w.heap.size + 1, 0, none⟩ = some (.bool false) ∧ W.frozen? ⟨w.heap.size + 1, 0, none⟩ = false) ∧ Below w.heap.size w W)
    (fun c pre W => (c = .ret ∧ (∃ y ∈ pre, ¬ (y : Int) < n) ∧ W.cell? ⟨w.heap.size + 1, 0, none⟩ = some (.bool false)) ∧ Below w.heap.size w W)
    (OwnFrom.and (Own.from (fun s A B row hs hg hr => ⟨hs.1, cell_kept hs.2.1 hg hr, cell_kept hs.2.2.1 hg hr, (frozen_kept hs.2.2.1 hg hr).trans hs.2.2.2⟩) _) (ownFrom_below (Nat.le_refl _) (by simp; omega)))
    (fun c => OwnFrom.and (Own.from (fun s A B row hs hg hr => ⟨hs.1, hs.2.1, cell_kept hs.2.2 hg hr⟩) _) (ownFrom_below (Nat.le_refl _) (by simp; omega)))
    ⟨⟨by simp, cell_alloc_l _ (cell_alloc_l _ c0.1), cell_alloc_l _ c1.1, frozen_alloc_l _ c1.1 c1.2⟩, hB0⟩
    (fun x => { tmps := #[.int .u64 v, .int .i64 n, undef, .pointer (some ⟨w.heap.size, 0, none⟩), .pointer (some ⟨w.heap.size + 1, 0, none⟩), .int .i64 (x : Int), .int .u64 v, .func (.func 107) #[] #[.pointer (some ⟨w.heap.size + 1 + 1, 0, none⟩)], .int .i64 (x : Int), undef, undef, undef], defers := [] }) ?assign ?body ?done ?stop
  case assign =>
    intro l x W K hK
    gi_wp2
    exact hK
  case body =>
    rintro l pre x W ⟨⟨hp, hcw, hcr, hfr⟩, hB⟩ _
    gi_wp2
    · rename_i hx
      exact ⟨KeepsOthers.setCell _ _ _, ⟨rfl, ⟨x, List.mem_append.2 (.inr (by simp)), by omega⟩, World.cell?_setCell_same' _ _ _ (by rw [hcr]; rfl)⟩, hB.setCell (p := ⟨w.heap.size + 1, 0, none⟩) (by simp) _⟩
    · rename_i hx
      exact ⟨KeepsOthers.refl _, Below.refl _ _, ⟨fun y hy => (List.mem_append.1 hy).elim (hp y) (fun e => by simp at e; subst e; omega), hcw, hcr, hfr⟩, hB⟩
  case done =>
    rintro D ys W hD rfl ⟨⟨hne, _, hcr, hfr⟩, hB⟩ hK
    gi_wp2
    have hK' := (KeepsOthers.setCell W ⟨w.heap.size + 1, 0, none⟩ (.bool true)).same D _ hK rfl
    refine ⟨by simp, .inl ⟨_, _, rfl, run_takeDeferred hK', ?_⟩⟩
    have hc5 := cell_kept (World.cell?_setCell_same' W ⟨w.heap.size + 1, 0, none⟩ (.bool true) (by rw [hcr]; rfl)) (grownBy_putObj' _ D (.deferred none)) (fun r e => by cases e; exact ⟨_, hK', rfl⟩)
    have hv : fitsB v n = true := by unfold fitsB; rw [List.all_eq_true]; intro y hy; exact decide_eq_true (hne y hy)
    refine ⟨.bool true, ?_, by rw [hv], (hB.setCell (p := ⟨w.heap.size + 1, 0, none⟩) (by simp) _).trans (belowK_b (w := w) (Nat.le_refl _) _ D _ _ (by simp at hD; omega) hK' rfl rfl)⟩
    simp [results, Try.f101, go_sem, hc5]
  case stop =>
    rintro D c pre W hD hpre ⟨⟨rfl, hin, hcr⟩, hB⟩ hK
    gi_wp2
    refine ⟨by simp, .inl ⟨_, _, rfl, run_takeDeferred hK, ?_⟩⟩
    have hc5 := cell_kept hcr (grownBy_putObj' _ D (.deferred none)) (fun r e => by cases e; exact ⟨_, hK, rfl⟩)
    have hv : fitsB v n = false := by
      obtain ⟨k, hk, hb, rfl⟩ := hpre
      obtain ⟨y, hy, hyn⟩ := hin
      have hy64 : y ∈ onesTo v 64 := by
        rcases List.mem_append.1 hy with h | h
        · simp only [onesTo, List.mem_filter, List.mem_range] at h ⊢
          exact ⟨by omega, h.2⟩
        · simp at h; subst h
          simp only [onesTo, List.mem_filter, List.mem_range]
          exact ⟨hk, hb⟩
      unfold fitsB
      rw [List.all_eq_false]
      exact ⟨y, hy64, by simpa using hyn⟩
    refine ⟨.bool false, ?_, by rw [hv], hB.trans (belowK_b (w := w) (Nat.le_refl _) W D _ _ (by simp at hD; omega) hK rfl rfl)⟩
    simp [results, Try.f101, go_sem, hc5]

theorem bitB_test (v i : Nat) : bitB (v : Int) i = v.testBit i := by
  unfold bitB
  rw [Nat.testBit_eq_decide_div_mod_eq]
  have e : (v : Int) / 2 ^ i % 2 = ((v / 2 ^ i % 2 : Nat) : Int) := by push_cast; rfl
  rw [e, Bool.eq_iff_iff, beq_iff_eq, decide_eq_true_iff]
  omega
theorem fits_iff {v n : Int} (v0 : 0 ≤ v) (v1 : v < 18446744073709551616) : fitsB v n = decide (v < 2 ^ n.toNat) := by
  obtain ⟨v, rfl⟩ := Int.eq_ofNat_of_zero_le v0
  have e : ((v : Int) < 2 ^ n.toNat) ↔ v < 2 ^ n.toNat := by
    rw [← Int.ofNat_lt, Int.natCast_pow]; rfl
  have hv : v < 2 ^ 64 := by simp only [Nat.reducePow]; omega
  rw [Bool.eq_iff_iff, decide_eq_true_iff, e]
  unfold fitsB
  rw [List.all_eq_true]
  constructor
  · intro h
    refine Nat.lt_pow_two_of_testBit _ (fun i hi => ?_)
    cases hb : v.testBit i with
    | false => rfl
    | true =>
      have h64 : i < 64 := Nat.lt_of_not_le (fun h64 => by
        rw [Nat.testBit_lt_two_pow (Nat.lt_of_lt_of_le hv (Nat.pow_le_pow_right (by omega) h64))] at hb
        cases hb)
      have := h i (by simp only [onesTo, List.mem_filter, List.mem_range]; exact ⟨h64, by rw [bitB_test]; exact hb⟩)
      have := of_decide_eq_true this
      omega
  · intro h i hi
    simp only [onesTo, List.mem_filter, List.mem_range] at hi
    obtain ⟨_, hb⟩ := hi
    rw [bitB_test] at hb
    refine decide_eq_true (Decidable.byContradiction fun hge => ?_)
    rw [Nat.testBit_lt_two_pow (Nat.lt_of_lt_of_le h (Nat.pow_le_pow_right (by omega) (by omega)))] at hb
    cases hb
theorem fits_any (v n : Int) (v0 : 0 ≤ v) (v1 : v < 18446744073709551616) (w : World) :
    Calls Try.prog 101 #[.int .u64 v, .int .i64 n] w fun e W' => e = .returned (.bool (decide (v < 2 ^ n.toNat))) ∧ Below w.heap.size w W' := by
  rw [← fits_iff v0 v1]
  exact callsIn_wide.1 (fits_in Fence.wide 10 trivial trivial trivial rfl (by omega) v n v0 v1 w)

/-! Field, With. -/
theorem field_yes (x a n : Int) (w : World) (x0 : 0 ≤ x) (x1 : x < 18446744073709551616) (hm : MayF a n) :
    Calls Try.prog 93 #[.int .u64 x, .int .i64 a, .int .i64 n] w fun e w' => e = .returned (.tuple #[.int .u64 (fldV x a n), .int .i64 0]) ∧ w = w' := by
  obtain ⟨a0, a1, n0, n1, _⟩ := id hm
  have hd := div_bd x0 x1 a.toNat
  have E : Hid (bits .and .u64 (x / 2 ^ a.toNat) (onesV n) = fldV x a n) := by
    unfold Hid; rw [and_ones hd.1 hd.2 n0 n1]; rfl
  go_enter Try.func93, Try.ntmps93
  go_wp2_with (first | (go_at_call 99; refine (may_yes a n _ hm).mono ?_; rintro e w' ⟨rfl, rfl⟩) | (go_at_call 100; refine (ones_any _ _).mono ?_; rintro e w' ⟨rfl, rfl⟩))
  go_ret2
  rw [← E.out]
  exact ⟨rfl, rfl⟩
theorem field_no (x a n : Int) (w : World) (hm : ¬ MayF a n) :
    Calls Try.prog 93 #[.int .u64 x, .int .i64 a, .int .i64 n] w fun e w' => e = .returned (.tuple #[.int .u64 0, .int .i64 2]) ∧ w = w' := by
  have H := hide hm
  clear hm
  go_enter Try.func93, Try.ntmps93
  go_wp2_with (go_at_call 99; refine (may_no a n _ H.out).mono ?_; rintro e w' ⟨rfl, rfl⟩)
  go_ret2
  exact ⟨rfl, rfl⟩
theorem with_yes (x a n v : Int) (w : World) (x0 : 0 ≤ x) (x1 : x < 18446744073709551616) (hm : MayF a n) (v0 : 0 ≤ v) (v1 : v < 2 ^ n.toNat) :
    Calls Try.prog 94 #[.int .u64 x, .int .i64 a, .int .i64 n, .int .u64 v] w fun e w' => e = .returned (.tuple #[.int .u64 (putV x a n v), .int .i64 0]) ∧ Below w.heap.size w w' := by
  obtain ⟨a0, a1, n0, n1, _⟩ := id hm
  have E := hide (or_put x0 x1 hm v0 v1).1
  have v2 : v < 18446744073709551616 := Int.lt_of_lt_of_le v1 (pow_le64i n1)
  have V1 := hide v1
  clear v1
  go_enter Try.func94, Try.ntmps94
  go_wp2_with (first | (go_at_call 99; refine (may_yes a n _ hm).mono ?_; rintro e w' ⟨rfl, rfl⟩) | (go_at_call 100; refine (ones_any _ _).mono ?_; rintro e w' ⟨rfl, rfl⟩) | (go_at_call 101; rw [← decide_eq_true V1.out]; refine (fits_any v n v0 v2 _).mono ?_; rintro e w' ⟨rfl, hb⟩; rw [decide_eq_true V1.out]))
  go_ret2
  rw [← E.out]
  exact ⟨rfl, hb⟩
theorem with_no (x a n v : Int) (w : World) (hm : ¬ MayF a n) :
    Calls Try.prog 94 #[.int .u64 x, .int .i64 a, .int .i64 n, .int .u64 v] w fun e w' => e = .returned (.tuple #[.int .u64 0, .int .i64 2]) ∧ w = w' := by
  have H := hide hm
  clear hm
  go_enter Try.func94, Try.ntmps94
  go_wp2_with fail
  refine (may_no a n _ H.out).mono ?_
  rintro e w' ⟨rfl, rfl⟩
  go_wp2_with fail
  go_ret2
  exact ⟨rfl, rfl⟩
theorem with_big (x a n v : Int) (w : World) (hm : MayF a n) (v0 : 0 ≤ v) (v1 : v < 18446744073709551616) (hv : 2 ^ n.toNat ≤ v) :
    Calls Try.prog 94 #[.int .u64 x, .int .i64 a, .int .i64 n, .int .u64 v] w fun e w' => e = .returned (.tuple #[.int .u64 0, .int .i64 3]) ∧ Below w.heap.size w w' := by
  have H := hide hm
  have HV := hide hv
  clear hm hv
  go_enter Try.func94, Try.ntmps94
  go_wp2_with fail
  refine (may_yes a n _ H.out).mono ?_
  rintro e w' ⟨rfl, rfl⟩
  go_wp2_with fail
  refine (fits_any v n v0 v1 _).mono ?_
  rintro e w1 ⟨rfl, hb1⟩
  rw [decide_eq_false (Int.not_lt.2 HV.out)]
  go_wp2_with fail
  go_ret2
  exact ⟨rfl, hb1⟩
end Go.Proofs.Ytlfenakabedmfaa
