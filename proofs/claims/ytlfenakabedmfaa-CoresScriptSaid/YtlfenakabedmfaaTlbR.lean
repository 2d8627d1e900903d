/- What All gives, row by row. -/
import Derived.Test.YtlfenakabedmfaaPlayed
namespace Go.Proofs.Ytlfenakabedmfaa
open Go.RowKit Go.Shelf
/-- The way that is the i-th of those that are there. -/
def nth (c : Cache) (i : Nat) : Nat := (vis c 8).getD i 0
def ts (c : Cache) (i : Nat) : Tr := c.way (nth c i)
/-- A list of translations in memory. -/
def RowsAt (w : World) (B : Nat) (A : Option Addr) (n : Nat) (t : Nat → Tr) : Prop :=
  n = 0 ∨ ∃ g, A = some ⟨g, 0, none⟩ ∧ B ≤ g ∧ g < w.heap.size ∧ ∀ i, i < n →
    w.cell? ⟨g, i * 5, none⟩ = some (.int .i64 (t i).sp) ∧ w.cell? ⟨g, i * 5 + 1, none⟩ = some (.int .i64 (t i).pg) ∧ w.cell? ⟨g, i * 5 + 2, none⟩ = some (.int .i64 (t i).fr) ∧ w.cell? ⟨g, i * 5 + 3, none⟩ = some (.bool (t i).rd) ∧ w.cell? ⟨g, i * 5 + 4, none⟩ = some (.bool (t i).wr)
theorem RowsAt.below {w w' : World} {B : Nat} {A : Option Addr} {n : Nat} {t : Nat → Tr} (h : RowsAt w B A n t) (hb : Below w.heap.size w w') : RowsAt w' B A n t := by
  rcases h with h | ⟨g, h1, h2, h3, h4⟩
  · exact .inl h
  · refine .inr ⟨g, h1, h2, Nat.lt_of_lt_of_le h3 hb.size, fun i hi => ?_⟩
    obtain ⟨c0, c1, c2, c3, c4⟩ := h4 i hi
    exact ⟨(cell_below hb h3).trans c0, (cell_below hb h3).trans c1, (cell_below hb h3).trans c2, (cell_below hb h3).trans c3, (cell_below hb h3).trans c4⟩
theorem RowsAt.mod {w w' : World} {B : Nat} {A : Option Addr} {n : Nat} {t : Nat → Tr} {S : Nat → Prop} (h : RowsAt w B A n t) (hm : Mod S w w') (hs : ∀ k, S k → k < B) : RowsAt w' B A n t := by
  rcases h with h | ⟨g, h1, h2, h3, h4⟩
  · exact .inl h
  · have hg : ¬ S g := fun e => by have := hs g e; omega
    refine .inr ⟨g, h1, h2, Nat.lt_of_lt_of_le h3 hm.size, fun i hi => ?_⟩
    obtain ⟨c0, c1, c2, c3, c4⟩ := h4 i hi
    exact ⟨(hm.cell hg h3).trans c0, (hm.cell hg h3).trans c1, (hm.cell hg h3).trans c2, (hm.cell hg h3).trans c3, (hm.cell hg h3).trans c4⟩
theorem rowsOf_get (c : Cache) : ∀ (l : List Nat) (i f : Nat), i < l.length → f < 5 → (rowsOf c l)[i * 5 + f]? = (c.way (l.getD i 0)).row.toList[f]?
  | [], i, f, hi, _ => by simp at hi
  | a :: l, 0, f, _, hf => by
    show ((c.way a).row.toList ++ rowsOf c l)[0 * 5 + f]? = _
    rw [List.getElem?_append_left (by show 0 * 5 + f < 5; omega)]
    simp
  | a :: l, i + 1, f, hi, hf => by
    show ((c.way a).row.toList ++ rowsOf c l)[(i + 1) * 5 + f]? = _
    have e : (c.way a).row.toList.length = 5 := rfl
    rw [List.getElem?_append_right (by rw [e]; omega), e, show (i + 1) * 5 + f - 5 = i * 5 + f by omega, rowsOf_get c l i f (by simpa using hi) hf]
    simp
theorem rows_of_owns {w : World} {B : Nat} {c : Cache} {v : Value} (h : w.ownsRow B 42 5 v (vis c 8).length (rowsOf c (vis c 8))) : ∃ A cap, v = .slice A (vis c 8).length cap ∧ RowsAt w B A (vis c 8).length (ts c) := by
  obtain ⟨hl, ⟨rfl, h0⟩ | ⟨g, cap, cur, rfl, hb, hg, _, _, hs, ht⟩⟩ := h
  · exact ⟨none, 0, by rw [h0], .inl h0⟩
  · refine ⟨_, cap, rfl, .inr ⟨g, rfl, hb, (Array.getElem?_eq_some_iff.1 hg).1, fun i hi => ?_⟩⟩
    have hblk : Blk w g 42 cur := hg
    have hc : ∀ f, f < 5 → w.cell? ⟨g, i * 5 + f, none⟩ = (ts c i).row.toList[f]? := fun f hf => by
      rw [hblk.cell, show (ts c i).row.toList[f]? = _ from (rowsOf_get c (vis c 8) i f hi hf).symm, ← ht, List.getElem?_take_of_lt (by omega)]
      simp
    exact ⟨hc 0 (by decide), hc 1 (by decide), hc 2 (by decide), hc 3 (by decide), hc 4 (by decide)⟩
theorem all_rows (g : Nat) (c : Cache) (w : World) (hT : TlbAt w g c) :
    Calls Try.prog 47 #[.pointer (some ⟨g, 0, none⟩)] w fun e w' => ∃ A cap, e = .returned (.slice A (vis c 8).length cap) ∧ RowsAt w' w.heap.size A (vis c 8).length (ts c) ∧ Below w.heap.size w w' := by
  refine (all_of g c w hT).mono ?_
  rintro e w' ⟨v, rfl, hrow, hb⟩
  obtain ⟨A, cap, rfl, hr⟩ := rows_of_owns hrow
  exact ⟨A, cap, rfl, hr, hb⟩
theorem nth_mem {c : Cache} {i : Nat} (h : i < (vis c 8).length) : nth c i ∈ vis c 8 := by
  unfold nth
  rw [List.getD_eq_getElem?_getD, List.getElem?_eq_getElem h]
  exact List.getElem_mem h
theorem nth_lt {c : Cache} {i : Nat} (h : i < (vis c 8).length) : nth c i < 8 ∧ (ts c i).sp ≠ 0 := mem_vis.1 (nth_mem h)
theorem take_nth {c : Cache} {i : Nat} (h : i < (vis c 8).length) : (vis c 8).take (i + 1) = (vis c 8).take i ++ [nth c i] := by
  unfold nth
  rw [List.take_add_one, List.getD_eq_getElem?_getD, List.getElem?_eq_getElem h]
  rfl
theorem vis_pair (c : Cache) : List.Pairwise (· < ·) (vis c 8) := List.Pairwise.filter _ List.pairwise_lt_range
theorem nth_mono {c : Cache} {i k : Nat} (h : i < k) (hk : k < (vis c 8).length) : nth c i < nth c k := by
  unfold nth
  rw [List.getD_eq_getElem?_getD, List.getD_eq_getElem?_getD, List.getElem?_eq_getElem hk, List.getElem?_eq_getElem (by omega)]
  exact List.pairwise_iff_getElem.1 (vis_pair c) i k (by omega) hk h
theorem take_len (c : Cache) (P : Tr → Bool) {n : Nat} (h : (vis c 8).length ≤ n) : dropN c P ((vis c 8).take n) = dropN c P (vis c 8) := by rw [List.take_of_length_le h]
theorem dropN_take (c : Cache) (P : Tr → Bool) (i : Nat) : dropN c P ((vis c 8).take i) ≤ dropN c P (vis c 8) := by
  unfold dropN
  exact ((List.take_sublist i (vis c 8)).filter _).length_le
/-- Behind a drop what was there is found, unless it was dropped. -/
theorem Good.found {c : Cache} (h : Good c) (P : Tr → Bool) {i : Nat} (hi : i < (vis c 8).length) : findOk (dropAt c P (vis c 8)) (ts c i).sp (ts c i).pg = !P (ts c i) := by
  obtain ⟨h8, h0⟩ := nth_lt hi
  have hm := nth_mem hi
  have hz : Tr.zero.sp = 0 := rfl
  cases hP : P (ts c i) with
  | true =>
    unfold findOk
    rw [findV_no]
    · rfl
    · intro j hj hj0 hh
      have e := hit_iff.1 hh
      by_cases hd : j ∈ vis c 8 ∧ P (c.way j) = true
      · simp only [dropAt, if_pos hd] at hj0
        exact hj0 hz
      · simp only [dropAt, if_neg hd] at hj0 e
        have := h.one j (nth c i) hj h8 hj0 e.1 e.2
        rw [this] at hd
        exact hd ⟨hm, hP⟩
  | false =>
    have hw : (dropAt c P (vis c 8)).way (nth c i) = ts c i := by
      simp only [dropAt]
      rw [if_neg]
      · rfl
      · rintro ⟨_, e⟩
        have e2 : P (ts c i) = true := e
        rw [hP] at e2
        cases e2
    have hf := (h.drop P (vis c 8)).find h8 (by rw [hw]; exact h0)
    rw [hw] at hf
    unfold findOk
    rw [hf]
    rfl
/-! What a region keeps that reads two cells beside a call, makes a block and fills it, in whatever order. -/
section
variable {wr W W2 : World} {g i j : Nat} {u v : Value}
def Two (wr : World) (g i j : Nat) (u v : Value) (W : World) : Prop := W.cell? ⟨g, i, none⟩ = some u ∧ W.cell? ⟨g, j, none⟩ = some v ∧ Mod (fun k => wr.heap.size ≤ k) wr W
theorem Two.of (p0 : wr.cell? ⟨g, i, none⟩ = some u) (p1 : wr.cell? ⟨g, j, none⟩ = some v) (hg : g < wr.heap.size) (h : Mod (fun k => wr.heap.size ≤ k) wr W) : W.cell? ⟨g, i, none⟩ = some u ∧ W.cell? ⟨g, j, none⟩ = some v ∧ Mod (fun k => wr.heap.size ≤ k) wr W :=
  ⟨(h.cell (by omega) hg).trans p0, (h.cell (by omega) hg).trans p1, h⟩
theorem Two.start (p0 : wr.cell? ⟨g, i, none⟩ = some u) (p1 : wr.cell? ⟨g, j, none⟩ = some v) : wr.drew.cell? ⟨g, i, none⟩ = some u ∧ wr.drew.cell? ⟨g, j, none⟩ = some v ∧ Mod (fun k => wr.heap.size ≤ k) wr wr.drew :=
  ⟨p0, p1, (Mod.refl _ wr).drew⟩
theorem Two.alloc (hg : g < wr.heap.size) (p0 : wr.cell? ⟨g, i, none⟩ = some u) (p1 : wr.cell? ⟨g, j, none⟩ = some v) (h : W.cell? ⟨g, i, none⟩ = some u ∧ W.cell? ⟨g, j, none⟩ = some v ∧ Mod (fun k => wr.heap.size ≤ k) wr W) {o : Obj} : (W.alloc o).cell? ⟨g, i, none⟩ = some u ∧ (W.alloc o).cell? ⟨g, j, none⟩ = some v ∧ Mod (fun k => wr.heap.size ≤ k) wr (W.alloc o) :=
  Two.of p0 p1 hg (h.2.2.alloc o)
theorem Two.alloc' (hg : g < wr.heap.size) (p0 : wr.cell? ⟨g, i, none⟩ = some u) (p1 : wr.cell? ⟨g, j, none⟩ = some v) (h : W.cell? ⟨g, i, none⟩ = some u ∧ W.cell? ⟨g, j, none⟩ = some v ∧ Mod (fun k => wr.heap.size ≤ k) wr W) {o : Obj} : (W.alloc o).drew.cell? ⟨g, i, none⟩ = some u ∧ (W.alloc o).drew.cell? ⟨g, j, none⟩ = some v ∧ Mod (fun k => wr.heap.size ≤ k) wr (W.alloc o).drew :=
  Two.of p0 p1 hg (h.2.2.alloc o).drew
theorem Two.call (hg : g < wr.heap.size) (p0 : wr.cell? ⟨g, i, none⟩ = some u) (p1 : wr.cell? ⟨g, j, none⟩ = some v) (hb : Below W.heap.size W W2) (h : W.cell? ⟨g, i, none⟩ = some u ∧ W.cell? ⟨g, j, none⟩ = some v ∧ Mod (fun k => wr.heap.size ≤ k) wr W) : W2.cell? ⟨g, i, none⟩ = some u ∧ W2.cell? ⟨g, j, none⟩ = some v ∧ Mod (fun k => wr.heap.size ≤ k) wr W2 :=
  Two.of p0 p1 hg (h.2.2.trans (Mod.of_below hb _))
theorem Two.set5 (hg : g < wr.heap.size) (p0 : wr.cell? ⟨g, i, none⟩ = some u) (p1 : wr.cell? ⟨g, j, none⟩ = some v) {x : Nat} (hx : wr.heap.size ≤ x) (h : W.cell? ⟨g, i, none⟩ = some u ∧ W.cell? ⟨g, j, none⟩ = some v ∧ Mod (fun k => wr.heap.size ≤ k) wr W) {q0 q1 q2 q3 q4 : Nat} {u0 u1 u2 u3 u4 : Value} :
    (((((W.setCell ⟨x, q0, none⟩ u0).setCell ⟨x, q1, none⟩ u1).setCell ⟨x, q2, none⟩ u2).setCell ⟨x, q3, none⟩ u3).setCell ⟨x, q4, none⟩ u4).cell? ⟨g, i, none⟩ = some u ∧ (((((W.setCell ⟨x, q0, none⟩ u0).setCell ⟨x, q1, none⟩ u1).setCell ⟨x, q2, none⟩ u2).setCell ⟨x, q3, none⟩ u3).setCell ⟨x, q4, none⟩ u4).cell? ⟨g, j, none⟩ = some v ∧ Mod (fun k => wr.heap.size ≤ k) wr (((((W.setCell ⟨x, q0, none⟩ u0).setCell ⟨x, q1, none⟩ u1).setCell ⟨x, q2, none⟩ u2).setCell ⟨x, q3, none⟩ u3).setCell ⟨x, q4, none⟩ u4) :=
  Two.of p0 p1 hg (((((h.2.2.setCell (p := ⟨x, q0, none⟩) (.inl hx) u0).setCell (p := ⟨x, q1, none⟩) (.inl hx) u1).setCell (p := ⟨x, q2, none⟩) (.inl hx) u2).setCell (p := ⟨x, q3, none⟩) (.inl hx) u3).setCell (p := ⟨x, q4, none⟩) (.inl hx) u4)
end
theorem RowsAt.mods {w w' : World} {B : Nat} {g : Nat} {n : Nat} {t : Nat → Tr} {S : Nat → Prop} (h : RowsAt w B (some ⟨g, 0, none⟩) n t) (hm : Mod S w w') (hs : ¬ S g) : RowsAt w' B (some ⟨g, 0, none⟩) n t := by
  rcases h with h | ⟨g', h1, h2, h3, h4⟩
  · exact .inl h
  · obtain rfl : g = g' := by simpa using h1
    refine .inr ⟨g, rfl, h2, Nat.lt_of_lt_of_le h3 hm.size, fun i hi => ?_⟩
    obtain ⟨c0, c1, c2, c3, c4⟩ := h4 i hi
    exact ⟨(hm.cell hs h3).trans c0, (hm.cell hs h3).trans c1, (hm.cell hs h3).trans c2, (hm.cell hs h3).trans c3, (hm.cell hs h3).trans c4⟩
end Go.Proofs.Ytlfenakabedmfaa
