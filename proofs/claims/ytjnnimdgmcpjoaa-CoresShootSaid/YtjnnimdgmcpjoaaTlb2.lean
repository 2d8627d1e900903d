/- The iterator over the ways of a cache that are not empty; Find. -/
import Derived.Test.YtjnnimdgmcpjoaaTlb
namespace Go.Proofs.Ytjnnimdgmcpjoaa
open Go.RowKit Go.Shelf
attribute [local go_sem] Oper.semAt_some
/-- The ways below n that are not empty. -/
def vis (c : Cache) (n : Nat) : List Nat := (List.range n).filter fun i => (c.way i).sp != 0
theorem vis_yes {c : Cache} {n : Nat} (h : ((c.way n).sp != 0) = true) : vis c (n + 1) = vis c n ++ [n] := by simp [vis, List.range_succ, List.filter_append, h]
theorem vis_no {c : Cache} {n : Nat} (h : ((c.way n).sp != 0) = false) : vis c (n + 1) = vis c n := by simp [vis, List.range_succ, List.filter_append, h]
theorem mem_vis {c : Cache} {n i : Nat} : i ∈ vis c n ↔ i < n ∧ (c.way i).sp ≠ 0 := by simp [vis]
set_option maxHeartbeats 1000000 in
theorem there_in (F : Fence) (n : Nat) (hF : WideF F Try.prog) (hro : F.round = none) (p : Option Addr) (w : World) :
    CallsIn F n Try.prog 73 #[.pointer p] w fun e w' => e = .returned (.func (.func 89) #[] #[.pointer (some ⟨w.heap.size, 0, none⟩)]) ∧ w' = w.alloc (.cells #[.pointer p] 99) := by
  refine callsIn_of_wp Try.func73 rfl (hF.fn _) ?_ hro
  simp only [Try.ntmps73, List.size_toArray, List.length_cons, List.length_nil, Nat.reduceAdd, Nat.reduceSub, Array.replicate_succ, Array.replicate_zero, List.push_toArray, List.append_toArray, List.nil_append, List.cons_append]
  gi_wp2
  go_ret
  exact ⟨rfl, rfl⟩
/-- What the round of x is told, what it must keep, what has come in the end. -/
def thereG (g : Nat) (c : Cache) (pre : List Nat) (x : Nat) (W : World) : Prop := x < 8 ∧ (c.way x).sp ≠ 0 ∧ pre = vis c x ∧ ∃ c', TlbAt W g c' ∧ c'.way x = c.way x
def thereK (g Bt : Nat) (_ : List Nat) (x : Nat) (W W' : World) : Prop := KeepB (· = Bt) W W' ∧ ∀ c', TlbAt W g c' → ∃ y, TlbAt W' g (c'.put x y)
set_option maxRecDepth 100000 in
set_option maxHeartbeats 4000000 in
theorem there_iter (F : Fence) (n : Nat) (hF : WideF F Try.prog) (hro : F.round = none) (hn : 1 ≤ n) (g Bt : Nat) (c : Cache) (w : World) (hT : TlbAt w g c) (bt : Blk w Bt 99 #[.pointer (some ⟨g, 0, none⟩)]) :
    Iter F n Try.prog 89 #[.pointer (some ⟨Bt, 0, none⟩)] (fun x : Nat => #[.pointer (some ⟨g, pos x, none⟩)]) (thereG g c) (thereK g Bt) (fun xs _ => xs = vis c 8) w := by
  intro l J Jx W hsk hl hJ hJx hY h0
  replace hT := hT.skips hsk
  replace bt := hsk.blk bt
  have c0 := bt.cell 0
  refine callsIn_of_wp Try.func89 rfl (hF.fn _) ?_ hro
  simp only [Try.ntmps89, List.size_toArray, List.length_cons, List.length_nil, Nat.reduceAdd, Nat.reduceSub, Array.replicate_succ, Array.replicate_zero, List.push_toArray, List.append_toArray, List.nil_append, List.cons_append]
  have HF := hide hF
  have HY := hide hY
  have HT := hide hT
  have HBT := hide bt
  clear hF hY hJ hJx hT bt
  gi_wp2
  gi_loopw [7] (fun i wr => ∃ (s : Nat) (c' : Cache), s ≤ 4 ∧ i = .int .i64 s ∧ J (vis c (2 * s)) wr ∧ TlbAt wr g c' ∧ (∀ j, 2 * s ≤ j → c'.way j = c.way j) ∧ Blk wr Bt 99 #[.pointer (some ⟨g, 0, none⟩)]) (fun i _ => 4 - (intOf i).toNat)
  case atStart => exact ⟨0, c, Nat.zero_le _, rfl, h0, HT.out, fun _ _ => rfl, HBT.out⟩
  case round =>
    obtain ⟨s, c', hs, rfl, hj, hT, hc, hb⟩ := hrel
    have HJ := hide hj
    have HT2 := hide hT
    have HC := hide hc
    have HB := hide hb
    clear hj hT hc hb
    obtain ⟨wo, rfl⟩ : ∃ wo : World, wo = wr := ⟨_, rfl⟩
    by_cases hlt : s < 4
    · have i1 : (0 : Int) ≤ (s : Int) := by omega
      have i2 : (s : Int) < 4 := by omega
      have i5 : decide ((s : Int) < 4) = true := decide_eq_true i2
      gi_wp2
      gi_loopw [10] (fun i wr => ∃ (k : Nat) (c' : Cache), k ≤ 2 ∧ i = .int .i64 k ∧ J (vis c (2 * s + k)) wr ∧ TlbAt wr g c' ∧ (∀ j, 2 * s + k ≤ j → c'.way j = c.way j) ∧ Blk wr Bt 99 #[.pointer (some ⟨g, 0, none⟩)]) (fun i _ => 2 - (intOf i).toNat)
      case atStart => exact ⟨0, c', Nat.zero_le _, rfl, HJ.out, HT2.out, HC.out, HB.out⟩
      case round =>
        obtain ⟨k, c2, hk, rfl, hj, hT, hc, hb⟩ := hrel
        have b0 := hb.cell 0
        have HJ3 := hide hj
        have HC3 := hide hc
        have HB3 := hide hb
        by_cases hlk : k < 2
        · have i3 : (0 : Int) ≤ (k : Int) := by omega
          have i4 : (k : Int) < 2 := by omega
          have t0 := (hT.cell (2 * s + k) (by omega)).1
          rw [hc (2 * s + k) (Nat.le_refl _), pos_of s k hlk] at t0
          have HT3 := hide hT
          cases hne : (c.way (2 * s + k)).sp != 0 with
          | true =>
            have HNE := hide hne
            obtain ⟨fn, tmps, assign, body, hy, hR⟩ := HY.out _ (2 * s + k) wr hj ⟨by omega, by simpa using hne, rfl, c2, hT, hc _ (Nat.le_refl _)⟩
            rw [pos_of s k hlk] at hy
            clear hj hT hc hb
            gi_wp2
            refine hR.mono ?_
            rintro e W3 (⟨rfl, hJ3, hk3, hk4⟩ | ⟨rfl, hJx3⟩)
            · obtain ⟨y, hTy⟩ := hk4 _ HT3.out
              have HJ4 := hide hJ3
              have HTY := hide hTy
              have HB4 := hide (hk3.blk HB3.out rfl)
              clear hJ3 hTy hk3 hk4 hR hy hne
              gi_wp2
              go_roundw
              case rel =>
                refine ⟨k + 1, _, by omega, by simp, ?_, HTY.out, fun j hj => ?_, HB4.out⟩
                · rw [← Nat.add_assoc, vis_yes HNE.out]; exact HJ4.out
                · simp only [Cache.put]
                  rw [if_neg (by omega)]
                  exact HC3.out j (by omega)
              case measure => simp [intOf]; omega
            · gi_wp2
              refine bodyPost_ret (results_none rfl _ _ _) rfl ?_
              exact ⟨⟨_, rfl⟩, .inr ⟨_, hJx3⟩⟩
          | false =>
            have HNE := hide hne
            clear hj hT hc hb
            gi_wp2
            refine ⟨fun _ h => (by cases h), ?_⟩
            gi_wp2
            go_roundw
            case rel => exact ⟨k + 1, _, by omega, by simp, by rw [← Nat.add_assoc, vis_no HNE.out]; exact HJ3.out, HT3.out, fun j hj => HC3.out j (by omega), HB3.out⟩
            case measure => simp [intOf]; omega
        · obtain rfl : k = 2 := by omega
          have HT3 := hide hT
          clear hj hT hc hb
          gi_wp2
          go_roundw
          case rel => exact ⟨s + 1, _, by omega, by simp, HJ3.out, HT3.out, fun j hj => HC3.out j (by omega), HB3.out⟩
          case measure => simp [intOf]; omega
    · obtain rfl : s = 4 := by omega
      gi_wp2
      go_end0
      exact ⟨⟨_, rfl⟩, .inl ⟨_, rfl, HJ.out⟩⟩
end Go.Proofs.Ytjnnimdgmcpjoaa
