/- Two lists of translations that are alike. -/
import Derived.Test.YtlfenakabedmfaaTlbR
namespace Go.Proofs.Ytlfenakabedmfaa
open Go.RowKit Go.Shelf
set_option maxRecDepth 100000 in
set_option maxHeartbeats 4000000 in
theorem sameTrans_yes (w : World) (B1 B2 : Nat) (R1 R2 : Option Addr) (N c1 c2 : Nat) (t : Nat → Tr) (hN : N ≤ 65536) (h1 : RowsAt w B1 R1 N t) (h2 : RowsAt w B2 R2 N t) :
    Calls Try.prog 63 #[.slice R1 N c1, .slice R2 N c2] w fun e w' => e = .returned (.bool true) ∧ Below w.heap.size w w' := by
  have H1 := hide h1
  have H2 := hide h2
  clear h1 h2
  go_enter Try.func63, Try.ntmps63
  go_wp2
  go_loopw [5] (fun i wr => ∃ k nd : Nat, k ≤ N ∧ i = .int .i64 k ∧ wr = w.drewN nd) (fun i _ => N - (intOf i).toNat)
  case atStart => exact ⟨0, 0, Nat.zero_le _, rfl, rfl⟩
  case round =>
    obtain ⟨k, nd, hk, rfl, rfl⟩ := hrel
    by_cases hlt : k < N
    · obtain ⟨g1, rfl, _, _, hc1⟩ := H1.out.resolve_left (by omega)
      obtain ⟨g2, rfl, _, _, hc2⟩ := H2.out.resolve_left (by omega)
      obtain ⟨a0, a1, a2, a3, a4⟩ := hc1 k hlt
      obtain ⟨b0, b1, b2, b3, b4⟩ := hc2 k hlt
      have i1 : (0 : Int) ≤ (k : Int) := by omega
      have i2 : (k : Int) < (N : Int) := by omega
      clear hc1 hc2
      go_wp2
      go_quiet (fail)
      go_wp2
      go_roundw
      case rel => exact ⟨k + 1, _, by omega, by simp, rfl⟩
      case measure => simp [intOf]; omega
    · go_wp2
      go_ret
      exact ⟨rfl, below_drewN (Below.refl _ _) _⟩
/-- Behind a fill every translation that was there is there still, but the one whose way was taken. -/
theorem Good.kept {c : Cache} {x : Tr} (hx : mayFill x) {i : Nat} (hi : i < (vis c 8).length) (h : nth c i ≠ fillI c x) : ∃ k, k < (vis (fillC c x) 8).length ∧ ts (fillC c x) k = ts c i := by
  obtain ⟨h8, h0⟩ := nth_lt hi
  have hw : (fillC c x).way (nth c i) = ts c i := by rw [fillC_way hx, if_neg h]; rfl
  have hm : nth c i ∈ vis (fillC c x) 8 := mem_vis.2 ⟨h8, by rw [hw]; exact h0⟩
  obtain ⟨k, hk, e⟩ := List.mem_iff_getElem.1 hm
  refine ⟨k, hk, ?_⟩
  unfold ts nth
  rw [List.getD_eq_getElem?_getD, List.getElem?_eq_getElem hk]
  show (fillC c x).way (vis (fillC c x) 8)[k] = _
  rw [e]
  exact hw
theorem Good.filled {c : Cache} (h : Good c) {x : Tr} (hx : mayFill x) : findTr (fillC c x) x.sp x.pg = x ∧ findOk (fillC c x) x.sp x.pg = true := by
  have hw : (fillC c x).way (fillI c x) = x := by rw [fillC_way hx, if_pos rfl]
  have hf := (h.fill x).find (fillI_lt c x) (by rw [hw]; have := hx.1; omega)
  rw [hw] at hf
  unfold findTr findOk
  rw [hf]
  exact ⟨hw, rfl⟩
end Go.Proofs.Ytlfenakabedmfaa
