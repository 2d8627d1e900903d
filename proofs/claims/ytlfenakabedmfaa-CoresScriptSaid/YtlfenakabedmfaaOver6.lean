/- OverTrans: it writes a row that the caller owns, and what is new. -/
import Derived.Test.YtlfenakabedmfaaTlbR
namespace Go.Proofs.Ytlfenakabedmfaa
open Go.RowKit Go.Shelf
theorem owns_set {w : World} {base : Nat} {e : TypeId} {g n cap : Nat} {xs : List Value} (h : w.ownsRow base e 5 (.slice (some ⟨g, 0, none⟩) n cap) n xs) (q : Nat) (u : Value) : ∃ xs', (w.setCell ⟨g, q, none⟩ u).ownsRow base e 5 (.slice (some ⟨g, 0, none⟩) n cap) n xs' := by
  obtain ⟨hl, ⟨h0, _⟩ | ⟨g', cap', cur, hv, hb, hg, hn, hc, hs, ht⟩⟩ := h
  · cases h0
  · simp at hv
    obtain ⟨rfl, rfl⟩ := hv
    have hblk : Blk w g e cur := hg
    refine ⟨(cur.setIfInBounds q u).toList.take (n * 5), ?_, .inr ⟨g, cap, _, rfl, hb, hblk.set_ q u, hn, hc, by simpa using hs, rfl⟩⟩
    rw [List.length_take]
    simp
    omega
theorem owns_cell {w : World} {base : Nat} {e : TypeId} {g n cap : Nat} {xs : List Value} (h : w.ownsRow base e 5 (.slice (some ⟨g, 0, none⟩) n cap) n xs) {q : Nat} (hq : q < n * 5) : (∃ u, w.cell? ⟨g, q, none⟩ = some u) ∧ w.frozen? ⟨g, q, none⟩ = false := by
  obtain ⟨hl, ⟨h0, _⟩ | ⟨g', cap', cur, hv, hb, hg, hn, hc, hs, ht⟩⟩ := h
  · cases h0
  · simp at hv
    obtain ⟨rfl, rfl⟩ := hv
    have hblk : Blk w g e cur := hg
    have hq2 : q < cur.size := by omega
    exact ⟨⟨_, (hblk.cell q).trans (Array.getElem?_eq_getElem hq2)⟩, hblk.frozen q⟩
def overRow : Array Value := #[.int .i64 (-9), .int .i64 0, .int .i64 0, .bool false, .bool false]
set_option maxRecDepth 100000 in
set_option maxHeartbeats 8000000 in
theorem overTrans_any (w : World) (base : Nat) (v : Value) (n : Nat) (xs : List Value) (hR : w.ownsRow base 42 5 v n xs) (hb : base ≤ w.heap.size) (hn : n ≤ 8) :
    Calls Try.prog 65 #[v] w fun e w' => (∃ u, e = .returned u) ∧ Below base w w' := by
  obtain ⟨i0, hi0, hz0, hz1, hz2⟩ := info_parts transInfo
  obtain ⟨A, cap, hv⟩ : ∃ A cap, v = .slice A n cap := by
    obtain ⟨_, ⟨h1, h2⟩ | ⟨g, cap, _, h1, _⟩⟩ := hR
    · exact ⟨none, 0, by rw [h1, h2]⟩
    · exact ⟨_, cap, h1⟩
  subst hv
  have HR := hide hR
  clear hR
  go_enter Try.func65, Try.ntmps65
  go_wp2
  go_loopw [2] (fun i wr => ∃ (k : Nat) (ys : List Value), k ≤ n ∧ i = .int .i64 k ∧ wr.ownsRow base 42 5 (.slice A n cap) n ys ∧ Below base w wr) (fun i _ => n - (intOf i).toNat)
  case atStart => exact ⟨0, _, Nat.zero_le _, rfl, HR.out, Below.refl _ _⟩
  case round =>
    obtain ⟨k, ys, hk, rfl, hr, hbw⟩ := hrel
    have HR2 := hide hr
    have HB2 := hide hbw
    clear hr hbw HR
    have hsz := HB2.out.size
    by_cases hlt : k < n
    · obtain ⟨g, hA, hbg⟩ : ∃ g, A = some ⟨g, 0, none⟩ ∧ base ≤ g := by
        obtain ⟨_, ⟨_, h2⟩ | ⟨g, cap', _, h1, h2, _⟩⟩ := HR2.out
        · omega
        · simp at h1
          exact ⟨g, h1.1, h2⟩
      subst hA
      obtain ⟨⟨u0, c0⟩, f0⟩ := owns_cell HR2.out (q := k * 5) (by omega)
      obtain ⟨⟨u1, c1⟩, f1⟩ := owns_cell HR2.out (q := k * 5 + 1) (by omega)
      obtain ⟨⟨u2, c2⟩, f2⟩ := owns_cell HR2.out (q := k * 5 + 2) (by omega)
      obtain ⟨⟨u3, c3⟩, f3⟩ := owns_cell HR2.out (q := k * 5 + 3) (by omega)
      obtain ⟨⟨u4, c4⟩, f4⟩ := owns_cell HR2.out (q := k * 5 + 4) (by omega)
      have i1 : (0 : Int) ≤ (k : Int) := by omega
      have i2 : (k : Int) < (n : Int) := by omega
      go_wp2
      obtain ⟨_, o1⟩ := owns_set HR2.out (k * 5) (.int .i64 (-9))
      obtain ⟨_, o2⟩ := owns_set o1 (k * 5 + 1) (.int .i64 0)
      obtain ⟨_, o3⟩ := owns_set o2 (k * 5 + 2) (.int .i64 0)
      obtain ⟨_, o4⟩ := owns_set o3 (k * 5 + 3) (.bool false)
      obtain ⟨_, o5⟩ := owns_set o4 (k * 5 + 4) (.bool false)
      go_roundw
      case rel => exact ⟨k + 1, _, by omega, by simp, o5, ((((HB2.out.setCell (p := ⟨g, k * 5, none⟩) hbg _).setCell (p := ⟨g, k * 5 + 1, none⟩) hbg _).setCell (p := ⟨g, k * 5 + 2, none⟩) hbg _).setCell (p := ⟨g, k * 5 + 3, none⟩) hbg _).setCell (p := ⟨g, k * 5 + 4, none⟩) hbg _⟩
      case measure => simp [intOf]; omega
    · obtain rfl : k = n := by omega
      have HB3 := hide (HB2.out.alloc (Nat.le_trans hb hsz) (.cells overRow 42))
      go_wp2_with (at_builtin; refine wpList_append_own _ rfl (.tmp 13) (.tmp 15) 38 rfl base 42 i0 (.agg Tr.zero.row) 5 32 Try.underlying38 hi0 hz0 hz1 hz2 rfl (by decide) _ k ys rfl (HR2.out.alloc _) ⟨wr.heap.size, 0, none⟩ 1 1 overRow.toList rfl rfl (World.news_of_block (heap_alloc_new wr _)) (by decide) (by unfold maxLen; omega) (by omega) (Nat.le_trans hb (Nat.le_trans hsz (by simp))) ?_; intro v' w1 hown hgrow hiff)
      go_end0
      exact ⟨⟨_, rfl⟩, HB3.out.grown hgrow (Nat.le_trans hb (Nat.le_trans hsz (by simp))) (fun k e => (HR2.out.lt k e).1)⟩
end Go.Proofs.Ytlfenakabedmfaa
