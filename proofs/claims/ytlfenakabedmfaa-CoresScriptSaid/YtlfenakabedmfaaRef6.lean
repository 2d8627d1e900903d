/- The reference of chapter 6: its block; May, Evict. -/
import Derived.Test.YtlfenakabedmfaaTlbG
namespace Go.Proofs.Ytlfenakabedmfaa
open Go.RowKit Go.Shelf
/-- The reference's block: way i at i * 5, which way of a set is due behind them. -/
def Ref6At (w : World) (g : Nat) (c : Cache) : Prop := ∃ cs : Array Value, Blk w g 129 cs ∧ cs.size = 44 ∧ (∀ i, i < 8 → ∀ f, f < 5 → cs[i * 5 + f]? = (c.way i).row[f]?) ∧ ∀ s, s < 4 → cs[40 + s]? = some (.int .i64 (c.due s))
section
variable {w w' : World} {g : Nat} {c : Cache}
theorem Ref6At.lt (h : Ref6At w g c) : g < w.heap.size := by obtain ⟨cs, hb, _⟩ := h; exact hb.lt
theorem Ref6At.same (h : Ref6At w g c) (hs : w'.heap[g]? = w.heap[g]?) : Ref6At w' g c := by obtain ⟨cs, hb, r⟩ := h; exact ⟨cs, hb.same hs, r⟩
theorem Ref6At.below {B : Nat} (h : Ref6At w g c) (hb : Below B w w') (h1 : g < B) : Ref6At w' g c := h.same (hb.block g h1)
theorem Ref6At.mod {S : Nat → Prop} (h : Ref6At w g c) (hm : Mod S w w') (h1 : ¬ S g) : Ref6At w' g c := h.same (hm.block g h.lt h1)
theorem Ref6At.drew (h : Ref6At w g c) : Ref6At w.drew g c := h.same rfl
theorem Ref6At.cell (h : Ref6At w g c) (i : Nat) (hi : i < 8) : w.cell? ⟨g, i * 5, none⟩ = some (.int .i64 (c.way i).sp) ∧ w.cell? ⟨g, i * 5 + 1, none⟩ = some (.int .i64 (c.way i).pg) ∧ w.cell? ⟨g, i * 5 + 2, none⟩ = some (.int .i64 (c.way i).fr) ∧
    w.cell? ⟨g, i * 5 + 3, none⟩ = some (.bool (c.way i).rd) ∧ w.cell? ⟨g, i * 5 + 4, none⟩ = some (.bool (c.way i).wr) := by
  obtain ⟨cs, hb, _, hc, _⟩ := h
  exact ⟨(hb.cell _).trans (hc i hi 0 (by decide)), (hb.cell _).trans (hc i hi 1 (by decide)), (hb.cell _).trans (hc i hi 2 (by decide)), (hb.cell _).trans (hc i hi 3 (by decide)), (hb.cell _).trans (hc i hi 4 (by decide))⟩
theorem Ref6At.due_ (h : Ref6At w g c) (s : Nat) (hs : s < 4) : w.cell? ⟨g, 40 + s, none⟩ = some (.int .i64 (c.due s)) := by
  obtain ⟨cs, hb, _, _, hd⟩ := h
  exact (hb.cell _).trans (hd s hs)
theorem Ref6At.frozen (h : Ref6At w g c) (j : Nat) : w.frozen? ⟨g, j, none⟩ = false := by
  obtain ⟨cs, hb, _⟩ := h
  exact hb.frozen j
theorem Ref6At.put (h : Ref6At w g c) (i : Nat) (hi : i < 8) (y : Tr) : Ref6At (stored5 w g (i * 5) y) g (c.put i y) := by
  obtain ⟨cs, hb, hs, hc, hd⟩ := h
  have hp : i * 5 + 5 ≤ cs.size := by omega
  refine ⟨_, ((((hb.set_ (i * 5) _).set_ (i * 5 + 1) _).set_ (i * 5 + 2) _).set_ (i * 5 + 3) _).set_ (i * 5 + 4) _, by simpa using hs, fun j hj f hf => ?_, fun s hs4 => ?_⟩
  · rw [set5_get cs (i * 5) _ _ _ _ _ hp]
    by_cases e : j = i
    · subst e
      rw [if_pos (by omega), Nat.add_sub_cancel_left]
      show _ = (if j = j then y else c.way j).row[f]?
      rw [if_pos rfl]
      rfl
    · rw [if_neg (by omega)]
      simp only [Cache.put, if_neg e]
      exact hc j hj f hf
  · rw [set5_get cs (i * 5) _ _ _ _ _ hp, if_neg (by omega)]
    exact hd s hs4
theorem Ref6At.setDue (h : Ref6At w g c) (s : Nat) (hs : s < 4) (d : Int) : Ref6At (w.setCell ⟨g, 40 + s, none⟩ (.int .i64 d)) g (c.setDue s d) := by
  obtain ⟨cs, hb, hz, hc, hd⟩ := h
  refine ⟨_, hb.set_ _ _, by simpa using hz, fun j hj f hf => ?_, fun t ht => ?_⟩
  · rw [Array.getElem?_setIfInBounds_ne (by omega)]
    exact hc j hj f hf
  · by_cases e : t = s
    · subst e
      rw [Array.getElem?_setIfInBounds_self, if_pos (by omega)]
      simp [Cache.setDue]
    · rw [Array.getElem?_setIfInBounds_ne (by omega)]
      simp only [Cache.setDue, if_neg e]
      exact hd t ht
end
def zeros44r : Array Value := #[.int .i64 0, .int .i64 0, .int .i64 0, .bool false, .bool false, .int .i64 0, .int .i64 0, .int .i64 0, .bool false, .bool false, .int .i64 0, .int .i64 0, .int .i64 0, .bool false, .bool false, .int .i64 0, .int .i64 0, .int .i64 0, .bool false, .bool false, .int .i64 0, .int .i64 0, .int .i64 0, .bool false, .bool false, .int .i64 0, .int .i64 0, .int .i64 0, .bool false, .bool false, .int .i64 0, .int .i64 0, .int .i64 0, .bool false, .bool false, .int .i64 0, .int .i64 0, .int .i64 0, .bool false, .bool false, .int .i64 0, .int .i64 0, .int .i64 0, .int .i64 0]
theorem Ref6At.new (w : World) : Ref6At (w.alloc (.cells zeros44r 129)) w.heap.size Cache.empty := by
  refine ⟨zeros44r, Blk.new _ _ _, rfl, fun i hi f hf => ?_, fun s hs => ?_⟩
  · match i, hi with
    | 0, _ | 1, _ | 2, _ | 3, _ | 4, _ | 5, _ | 6, _ | 7, _ =>
      match f, hf with
      | 0, _ | 1, _ | 2, _ | 3, _ | 4, _ => rfl
  · match s, hs with
    | 0, _ | 1, _ | 2, _ | 3, _ => rfl
set_option maxHeartbeats 1000000 in
theorem revict6_bad (g : Nat) (s k : Int) (w : World) (h : ¬ mayEvict s k) : Calls Try.prog 61 #[.pointer (some ⟨g, 0, none⟩), .int .i64 s, .int .i64 k] w fun e w' => e = .returned (.bool false) ∧ w = w' := by
  unfold mayEvict at h
  by_cases h1 : s < 0
  · clear h
    go_enter Try.func61, Try.ntmps61
    go_wp2
    go_ret
    exact ⟨rfl, rfl⟩
  by_cases h2 : 4 ≤ s
  · clear h
    go_enter Try.func61, Try.ntmps61
    go_wp2
    go_ret
    exact ⟨rfl, rfl⟩
  by_cases h3 : k < 0
  · clear h
    go_enter Try.func61, Try.ntmps61
    go_wp2
    go_ret
    exact ⟨rfl, rfl⟩
  have h4 : 2 ≤ k := by omega
  clear h
  go_enter Try.func61, Try.ntmps61
  go_wp2
  go_ret
  exact ⟨rfl, rfl⟩
set_option maxHeartbeats 1000000 in
theorem revict6_in (g s k : Nat) (c : Cache) (w : World) (h : Ref6At w g c) (hs : s < 4) (hk : k < 2) : Calls Try.prog 61 #[.pointer (some ⟨g, 0, none⟩), .int .i64 s, .int .i64 k] w fun e w' =>
    e = .returned (.bool (decide (0 < (c.way (2 * s + k)).sp))) ∧ Ref6At w' g (c.put (2 * s + k) Tr.zero) ∧ Mod (· = g) w w' := by
  obtain ⟨c0, c1, c2, c3, c4⟩ := h.cell (2 * s + k) (by omega)
  have f0 := h.frozen ((2 * s + k) * 5)
  have f1 := h.frozen ((2 * s + k) * 5 + 1)
  have f2 := h.frozen ((2 * s + k) * 5 + 2)
  have f3 := h.frozen ((2 * s + k) * 5 + 3)
  have f4 := h.frozen ((2 * s + k) * 5 + 4)
  have hput := h.put (2 * s + k) (by omega) Tr.zero
  have hmod := stored5_mod (Mod.refl (· = g) w) (.inl rfl) ((2 * s + k) * 5) Tr.zero (g := g)
  unfold stored5 at hput hmod
  rw [show (2 * s + k) * 5 = s * 10 + k * 5 by omega] at *
  have HT := hide hput
  have HMD := hide hmod
  clear h hput hmod
  go_enter Try.func61, Try.ntmps61
  go_wp2
  go_ret
  exact ⟨rfl, HT.out, HMD.out⟩
/-- The same answer and the same cache as the program's own. -/
theorem revict6 (g : Nat) (s k : Int) (c : Cache) (w : World) (h : Ref6At w g c) (hG : Good c) : Calls Try.prog 61 #[.pointer (some ⟨g, 0, none⟩), .int .i64 s, .int .i64 k] w fun e w' =>
    e = .returned (.bool (evictB c s k)) ∧ Ref6At w' g (evictC c s k) ∧ Mod (· = g) w w' := by
  unfold evictB evictC
  by_cases hm : 0 ≤ s ∧ s < 4 ∧ 0 ≤ k ∧ k < 2
  · rw [if_pos hm, if_pos hm]
    obtain ⟨s, rfl⟩ := Int.eq_ofNat_of_zero_le hm.1
    obtain ⟨k, rfl⟩ := Int.eq_ofNat_of_zero_le hm.2.2.1
    have hb : decide (0 < (c.way (2 * s + k)).sp) = ((c.way (2 * s + k)).sp != 0) := by
      by_cases h0 : (c.way (2 * s + k)).sp = 0
      · simp [h0]
      · have := (hG.may (2 * s + k) (by omega) h0).1.1
        rw [decide_eq_true (by omega)]
        simp [h0]
    have hr := revict6_in g s k c w h (by omega) (by omega)
    rw [hb] at hr
    exact hr
  · rw [if_neg hm, if_neg hm]
    refine (revict6_bad g s k w hm).mono ?_
    rintro e w' ⟨rfl, rfl⟩
    exact ⟨rfl, h, Mod.refl _ _⟩
set_option maxHeartbeats 4000000 in
theorem rmay6 (a b c : Int) (d e : Bool) (w : World) : Calls Try.prog 98 #[.agg #[.int .i64 a, .int .i64 b, .int .i64 c, .bool d, .bool e]] w fun en w' => en = .returned (.bool (decide (1 ≤ a ∧ 0 ≤ b ∧ b < 512 ∧ 0 ≤ c ∧ c < 64 ∧ (d = true ∨ e = true)))) ∧ Below w.heap.size w w' := by
  have hb0 := (Below.refl w.heap.size w).alloc (Nat.le_refl _) (.cells #[.int .i64 a, .int .i64 b, .int .i64 c, .bool d, .bool e] 42)
  have HB := hide hb0
  clear hb0
  by_cases h1 : 1 ≤ a
  · by_cases h2 : 0 ≤ b
    · by_cases h3 : b < 512
      · by_cases h4 : 0 ≤ c
        · by_cases h5 : c < 64
          · cases d with
            | true =>
              go_enter Try.func98, Try.ntmps98
              go_wp2
              go_ret
              exact ⟨by simp [h1, h2, h3, h4, h5], HB.out⟩
            | false =>
              go_enter Try.func98, Try.ntmps98
              go_wp2
              go_ret
              exact ⟨by simp [h1, h2, h3, h4, h5], HB.out⟩
          · go_enter Try.func98, Try.ntmps98
            go_wp2
            go_ret
            exact ⟨by simp; intros; omega, HB.out⟩
        · go_enter Try.func98, Try.ntmps98
          go_wp2
          go_ret
          exact ⟨by simp; intros; omega, HB.out⟩
      · go_enter Try.func98, Try.ntmps98
        go_wp2
        go_ret
        exact ⟨by simp; intros; omega, HB.out⟩
    · go_enter Try.func98, Try.ntmps98
      go_wp2
      go_ret
      exact ⟨by simp; intros; omega, HB.out⟩
  · go_enter Try.func98, Try.ntmps98
    go_wp2
    go_ret
    exact ⟨by simp; intros; omega, HB.out⟩
end Go.Proofs.Ytlfenakabedmfaa
