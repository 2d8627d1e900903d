/- A list of acts of chapter 7 as an argument, opened. -/
import Derived.Test.YtlfenakabedmfaaActs6
namespace Go.Proofs.Ytlfenakabedmfaa
open Go.ChangeShapes Go.WideShapes Go.Deep Go.RowKit
/-- An act of chapter 7. -/
structure Act7 where
  d : Int
  c : Int
  r : Int
  s : Int
  p : Int
  t : Int
  y : Int
  a : Int
  v : Int
instance : Inhabited Act7 := ⟨⟨0, 0, 0, 0, 0, 0, 0, 0, 0⟩⟩
def Act7At (w : World) (b o : Nat) (x : Act7) : Prop :=
  w.cell? ⟨b, o, none⟩ = some (.int .i64 x.d) ∧ w.cell? ⟨b, o + 1, none⟩ = some (.int .i64 x.c) ∧ w.cell? ⟨b, o + 2, none⟩ = some (.int .i64 x.r) ∧ w.cell? ⟨b, o + 3, none⟩ = some (.int .i64 x.s) ∧ w.cell? ⟨b, o + 4, none⟩ = some (.int .i64 x.p) ∧
    w.cell? ⟨b, o + 5, none⟩ = some (.int .i64 x.t) ∧ w.cell? ⟨b, o + 6, none⟩ = some (.int .i64 x.y) ∧ w.cell? ⟨b, o + 7, none⟩ = some (.int .u64 x.a) ∧ w.cell? ⟨b, o + 8, none⟩ = some (.int .u64 x.v) ∧ (0 ≤ x.a ∧ x.a < 18446744073709551616) ∧ (0 ≤ x.v ∧ x.v < 18446744073709551616)
theorem Act7At.keep {w w' : World} {b o : Nat} {x : Act7} (h : Act7At w b o x) (hk : ∀ j, w'.cell? ⟨b, j, none⟩ = w.cell? ⟨b, j, none⟩) : Act7At w' b o x := by
  unfold Act7At at h ⊢
  simp only [hk]
  exact h
def Acts7 (w : World) (A : Option Addr) (n : Nat) (xs : Nat → Act7) : Prop :=
  n = 0 ∨ ∃ b off, A = some ⟨b, off, none⟩ ∧ b < w.heap.size ∧ ∀ i, i < n → Act7At w b (off + i * 9) (xs i)
theorem Acts7.below {w w' : World} {A : Option Addr} {n : Nat} {xs : Nat → Act7} (h : Acts7 w A n xs) (hb : Below w.heap.size w w') : Acts7 w' A n xs := by
  rcases h with h | ⟨b, off, h1, h2, h3⟩
  · exact .inl h
  · exact .inr ⟨b, off, h1, Nat.lt_of_lt_of_le h2 hb.size, fun i hi => (h3 i hi).keep (fun j => hb.cell (p := ⟨b, j, none⟩) h2)⟩
section
variable {H : Type} {enc : TypeId × Value → H} {w : World}
theorem c7Int : Try.prog.cellsOf 3 = 1 := by kernel_rfl
theorem c7U64 : Try.prog.cellsOf 32 = 1 := by kernel_rfl
theorem c7Act : Try.prog.cellsOf 46 = 9 := by kernel_rfl
theorem open_act7 {fuel : Nat} {cs : List Value} {y : DataW H × List MemPlace} (hl : cs.length = 9) (h : DataW.trod enc Try.prog w 0 (fun _ => true) true fuel 46 cs = some y) :
    ∃ x : Act7, cs = [.int .i64 x.d, .int .i64 x.c, .int .i64 x.r, .int .i64 x.s, .int .i64 x.p, .int .i64 x.t, .int .i64 x.y, .int .u64 x.a, .int .u64 x.v] ∧ (0 ≤ x.a ∧ x.a < 18446744073709551616) ∧ (0 ≤ x.v ∧ x.v < 18446744073709551616) := by
  match cs, hl with
  | [c0, c1, c2, c3, c4, c5, c6, c7, c8], _ =>
    obtain ⟨xs, n, _, _, _, hlen, hg⟩ := DataW.trod_struct Try.underlying46 h
    match xs, hlen with
    | [y0, y1, y2, y3, y4, y5, y6, y7, y8], _ =>
      have g0 := hg 0 _ rfl
      have g1 := hg 1 _ rfl
      have g2 := hg 2 _ rfl
      have g3 := hg 3 _ rfl
      have g4 := hg 4 _ rfl
      have g5 := hg 5 _ rfl
      have g6 := hg 6 _ rfl
      have g7 := hg 7 _ rfl
      have g8 := hg 8 _ rfl
      simp [c7Int, c7U64] at g0 g1 g2 g3 g4 g5 g6 g7 g8
      obtain ⟨x0, e0, _, _⟩ := DataW.trod_int Try.underlying3 g0
      obtain ⟨x1, e1, _, _⟩ := DataW.trod_int Try.underlying3 g1
      obtain ⟨x2, e2, _, _⟩ := DataW.trod_int Try.underlying3 g2
      obtain ⟨x3, e3, _, _⟩ := DataW.trod_int Try.underlying3 g3
      obtain ⟨x4, e4, _, _⟩ := DataW.trod_int Try.underlying3 g4
      obtain ⟨x5, e5, _, _⟩ := DataW.trod_int Try.underlying3 g5
      obtain ⟨x6, e6, _, _⟩ := DataW.trod_int Try.underlying3 g6
      obtain ⟨x7, e7, _, w7⟩ := DataW.trod_int Try.underlying32 g7
      obtain ⟨x8, e8, _, w8⟩ := DataW.trod_int Try.underlying32 g8
      simp at e0 e1 e2 e3 e4 e5 e6 e7 e8
      subst e0 e1 e2 e3 e4 e5 e6 e7 e8
      exact ⟨⟨x0, x1, x2, x3, x4, x5, x6, x7, x8⟩, rfl, wfu w7, wfu w8⟩
set_option maxRecDepth 100000 in
theorem open_acts7 {v : Value} {d : DataW H} {p : List MemPlace} {r : Reach} {b0 : Nat} (hv : Value.okWide Try.prog w r b0 44 v) (h : DataW.Trod enc Try.prog w 0 (fun _ => true) true 44 v d p) :
    ∃ (A : Option Addr) (n c : Nat) (xs : Nat → Act7), v = .slice A n c ∧ n ≤ maxLen ∧ Acts7 w A n xs := by
  obtain ⟨A, n, c, rfl, hn, h0 | ⟨b, off, rfl, hb, hc⟩⟩ := open_rows_raw Try.underlying44 (by rw [c7Act]; decide) hv h
  · exact ⟨A, n, c, default, rfl, hn, .inl h0⟩
  · obtain ⟨xs, hx⟩ := choose_below (α := Act7) (n := n) (p := fun i x => Act7At w b (off + i * 9) x) (fun i hi => by
        obtain ⟨cs, q, y, hl, hcell, ht⟩ := hc i hi
        rw [c7Act] at hl hcell
        obtain ⟨x, rfl, u1, u2⟩ := open_act7 hl ht
        exact ⟨x, hcell 0 (by decide), hcell 1 (by decide), hcell 2 (by decide), hcell 3 (by decide), hcell 4 (by decide), hcell 5 (by decide), hcell 6 (by decide), hcell 7 (by decide), hcell 8 (by decide), u1, u2⟩)
    exact ⟨_, n, c, xs, rfl, hn, .inr ⟨b, off, rfl, hb, hx⟩⟩
end
end Go.Proofs.Ytlfenakabedmfaa
