/- A list of acts of chapter 6 as an argument, opened: an act has a struct in it. -/
import Derived.Test.YtfjhchcnhmafkaaSlices
import Derived.Test.YtfjhchcnhmafkaaTlb8
namespace Go.Proofs.Ytfjhchcnhmafkaa
open Go.ChangeShapes Go.WideShapes Go.Deep Go.RowKit
section
variable {H : Type} {enc : TypeId × Value → H} {P : Program} {w : World}
/-- The elements' cells, whatever fields an element has. -/
theorem open_rows_raw {t e : TypeId} {v : Value} {d : DataW H} {p : List MemPlace} {r : Reach} {b0 : Nat} (ht : P.underlying t = some (.slice e)) (h0 : 0 < P.cellsOf e)
    (hv : Value.okWide P w r b0 t v) (h : DataW.Trod enc P w 0 (fun _ => true) true t v d p) :
    ∃ (A : Option Addr) (n c : Nat), v = .slice A n c ∧ n ≤ maxLen ∧ (n = 0 ∨ ∃ b off, A = some ⟨b, off, none⟩ ∧ b < w.heap.size ∧ ∀ i, i < n →
      ∃ (cs : List Value) (fuel : Nat) (y : DataW H × List MemPlace), cs.length = P.cellsOf e ∧ (∀ j, j < P.cellsOf e → w.cell? ⟨b, off + i * P.cellsOf e + j, none⟩ = cs[j]?) ∧ DataW.trod enc P w 0 (fun _ => true) true fuel e cs = some y) := by
  obtain ⟨A, n, c, rfl⟩ := okWide_slice ht hv
  obtain ⟨fuel, hf⟩ := h
  refine ⟨A, n, c, rfl, ?_⟩
  rcases open_slice ht hf with ⟨hcs, _⟩ | ⟨a, len, cap, m, q, D, Pl, hcs, _, hl, hm, hmm, _, hi⟩
  · simp [Value.cells] at hcs
    obtain ⟨rfl, rfl, rfl⟩ := hcs
    exact ⟨Nat.zero_le _, .inl rfl⟩
  · simp [Value.cells] at hcs
    obtain ⟨rfl, rfl, rfl⟩ := hcs
    refine ⟨Nat.le_trans hl hm, ?_⟩
    simp only [if_true] at hmm
    rcases Nat.eq_zero_or_pos n with h0n | hpos
    · exact .inl h0n
    right
    obtain ⟨cs', hc, _⟩ := hi 0 (by omega)
    obtain ⟨_, hcl, hat⟩ := World.cells?_some hc
    have hc0 := hat 0 h0
    rw [List.getElem?_eq_getElem (by omega)] at hc0
    have hs : a.spot = none := by
      have := World.cell?_spot hc0
      simpa [Addr.add] using this
    obtain ⟨b, off, sp⟩ := a
    obtain rfl : sp = none := hs
    refine ⟨b, off, rfl, ?_, fun i hin => ?_⟩
    · have := World.block_lt_of_cell? w _ hc0
      simpa [Addr.add] using this
    · obtain ⟨cs', hc, ht'⟩ := hi i (by omega)
      obtain ⟨_, hcl, hat⟩ := World.cells?_some hc
      refine ⟨cs', q, _, hcl, fun j hj => ?_, ht'⟩
      rw [← hat j hj, Go.Deep.add_add, Addr.add_mid, Nat.add_assoc]
end
/-- An act of chapter 6. -/
structure Act6 where
  d : Int
  x : Tr
  s : Int
  k : Int
instance : Inhabited Act6 := ⟨⟨0, Tr.zero, 0, 0⟩⟩
def Acts6 (w : World) (A : Option Addr) (n : Nat) (xs : Nat → Act6) : Prop :=
  n = 0 ∨ ∃ b off, A = some ⟨b, off, none⟩ ∧ b < w.heap.size ∧ ∀ i, i < n →
    w.cell? ⟨b, off + i * 8, none⟩ = some (.int .i64 (xs i).d) ∧ w.cell? ⟨b, off + i * 8 + 1, none⟩ = some (.int .i64 (xs i).x.sp) ∧ w.cell? ⟨b, off + i * 8 + 2, none⟩ = some (.int .i64 (xs i).x.pg) ∧ w.cell? ⟨b, off + i * 8 + 3, none⟩ = some (.int .i64 (xs i).x.fr) ∧
      w.cell? ⟨b, off + i * 8 + 4, none⟩ = some (.bool (xs i).x.rd) ∧ w.cell? ⟨b, off + i * 8 + 5, none⟩ = some (.bool (xs i).x.wr) ∧ w.cell? ⟨b, off + i * 8 + 6, none⟩ = some (.int .i64 (xs i).s) ∧ w.cell? ⟨b, off + i * 8 + 7, none⟩ = some (.int .i64 (xs i).k)
section
variable {H : Type} {enc : TypeId × Value → H} {w : World}
theorem c6Int : Try.prog.cellsOf 3 = 1 := by kernel_rfl
theorem c6Bool : Try.prog.cellsOf 4 = 1 := by kernel_rfl
theorem c6Trans : Try.prog.cellsOf 28 = 5 := by kernel_rfl
theorem c6Act : Try.prog.cellsOf 67 = 8 := by kernel_rfl
theorem open_act6 {fuel : Nat} {cs : List Value} {y : DataW H × List MemPlace} (hl : cs.length = 8) (h : DataW.trod enc Try.prog w 0 (fun _ => true) true fuel 67 cs = some y) :
    ∃ x : Act6, cs = [.int .i64 x.d, .int .i64 x.x.sp, .int .i64 x.x.pg, .int .i64 x.x.fr, .bool x.x.rd, .bool x.x.wr, .int .i64 x.s, .int .i64 x.k] := by
  match cs, hl with
  | [c0, c1, c2, c3, c4, c5, c6, c7], _ =>
    obtain ⟨xs, n, _, _, _, hlen, hg⟩ := DataW.trod_struct Try.underlying67 h
    match xs, hlen with
    | [y0, y1, y2, y3], _ =>
      have g0 := hg 0 _ rfl
      have g1 := hg 1 _ rfl
      have g2 := hg 2 _ rfl
      have g3 := hg 3 _ rfl
      simp [c6Int, c6Trans] at g0 g1 g2 g3
      obtain ⟨zs, n', _, _, _, hlen', hg'⟩ := DataW.trod_struct Try.underlying28 g1
      match zs, hlen' with
      | [z0, z1, z2, z3, z4], _ =>
        have k0 := hg' 0 _ rfl
        have k1 := hg' 1 _ rfl
        have k2 := hg' 2 _ rfl
        have k3 := hg' 3 _ rfl
        have k4 := hg' 4 _ rfl
        simp [c6Int, c6Bool] at k0 k1 k2 k3 k4
        obtain ⟨x0, e0, _, _⟩ := DataW.trod_int Try.underlying3 g0
        obtain ⟨x6, e6, _, _⟩ := DataW.trod_int Try.underlying3 g2
        obtain ⟨x7, e7, _, _⟩ := DataW.trod_int Try.underlying3 g3
        obtain ⟨x1, e1, _, _⟩ := DataW.trod_int Try.underlying3 k0
        obtain ⟨x2, e2, _, _⟩ := DataW.trod_int Try.underlying3 k1
        obtain ⟨x3, e3, _, _⟩ := DataW.trod_int Try.underlying3 k2
        obtain ⟨x4, e4, _⟩ := DataW.trod_bool Try.underlying4 k3
        obtain ⟨x5, e5, _⟩ := DataW.trod_bool Try.underlying4 k4
        simp at e0 e1 e2 e3 e4 e5 e6 e7
        subst e0 e1 e2 e3 e4 e5 e6 e7
        exact ⟨⟨x0, ⟨x1, x2, x3, x4, x5⟩, x6, x7⟩, rfl⟩
set_option maxRecDepth 100000 in
theorem open_acts6 {v : Value} {d : DataW H} {p : List MemPlace} {r : Reach} {b0 : Nat} (hv : Value.okWide Try.prog w r b0 53 v) (h : DataW.Trod enc Try.prog w 0 (fun _ => true) true 53 v d p) :
    ∃ (A : Option Addr) (n c : Nat) (xs : Nat → Act6), v = .slice A n c ∧ n ≤ maxLen ∧ Acts6 w A n xs := by
  obtain ⟨A, n, c, rfl, hn, h0 | ⟨b, off, rfl, hb, hc⟩⟩ := open_rows_raw Try.underlying53 (by rw [c6Act]; decide) hv h
  · exact ⟨A, n, c, default, rfl, hn, .inl h0⟩
  · obtain ⟨xs, hx⟩ := choose_below (α := Act6) (n := n) (p := fun i x => w.cell? ⟨b, off + i * 8, none⟩ = some (.int .i64 x.d) ∧ w.cell? ⟨b, off + i * 8 + 1, none⟩ = some (.int .i64 x.x.sp) ∧ w.cell? ⟨b, off + i * 8 + 2, none⟩ = some (.int .i64 x.x.pg) ∧ w.cell? ⟨b, off + i * 8 + 3, none⟩ = some (.int .i64 x.x.fr) ∧
      w.cell? ⟨b, off + i * 8 + 4, none⟩ = some (.bool x.x.rd) ∧ w.cell? ⟨b, off + i * 8 + 5, none⟩ = some (.bool x.x.wr) ∧ w.cell? ⟨b, off + i * 8 + 6, none⟩ = some (.int .i64 x.s) ∧ w.cell? ⟨b, off + i * 8 + 7, none⟩ = some (.int .i64 x.k)) (fun i hi => by
        obtain ⟨cs, q, y, hl, hcell, ht⟩ := hc i hi
        rw [c6Act] at hl hcell
        obtain ⟨x, rfl⟩ := open_act6 hl ht
        exact ⟨x, hcell 0 (by decide), hcell 1 (by decide), hcell 2 (by decide), hcell 3 (by decide), hcell 4 (by decide), hcell 5 (by decide), hcell 6 (by decide), hcell 7 (by decide)⟩)
    exact ⟨_, n, c, xs, rfl, hn, .inr ⟨b, off, rfl, hb, hx⟩⟩
end
end Go.Proofs.Ytfjhchcnhmafkaa
