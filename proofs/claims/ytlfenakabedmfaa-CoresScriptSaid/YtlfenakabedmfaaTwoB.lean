/- What a region keeps that draws its order, reads two cells beside a call, makes a block and fills it. -/
import Derived.Test.YtlfenakabedmfaaIter
namespace Go.Proofs.Ytlfenakabedmfaa
open Go.RowKit Go.Shelf
section
variable {wr W W2 : World} {g h i j : Nat} {u v : Value}
theorem TwoB.of (p0 : wr.cell? ⟨g, i, none⟩ = some u) (p1 : wr.cell? ⟨h, j, none⟩ = some v) (hg : g < wr.heap.size) (hh : h < wr.heap.size) (hb : Below wr.heap.size wr W) : W.cell? ⟨g, i, none⟩ = some u ∧ W.cell? ⟨h, j, none⟩ = some v ∧ Below wr.heap.size wr W :=
  ⟨(hb.cell (p := ⟨g, i, none⟩) hg).trans p0, (hb.cell (p := ⟨h, j, none⟩) hh).trans p1, hb⟩
theorem TwoB.start (p0 : wr.cell? ⟨g, i, none⟩ = some u) (p1 : wr.cell? ⟨h, j, none⟩ = some v) : wr.drew.cell? ⟨g, i, none⟩ = some u ∧ wr.drew.cell? ⟨h, j, none⟩ = some v ∧ Below wr.heap.size wr wr.drew :=
  ⟨p0, p1, (Below.refl _ wr).drew⟩
theorem TwoB.alloc (hg : g < wr.heap.size) (hh : h < wr.heap.size) (p0 : wr.cell? ⟨g, i, none⟩ = some u) (p1 : wr.cell? ⟨h, j, none⟩ = some v) (hb : W.cell? ⟨g, i, none⟩ = some u ∧ W.cell? ⟨h, j, none⟩ = some v ∧ Below wr.heap.size wr W) {o : Obj} : (W.alloc o).cell? ⟨g, i, none⟩ = some u ∧ (W.alloc o).cell? ⟨h, j, none⟩ = some v ∧ Below wr.heap.size wr (W.alloc o) :=
  TwoB.of p0 p1 hg hh (hb.2.2.alloc hb.2.2.size o)
theorem TwoB.alloc' (hg : g < wr.heap.size) (hh : h < wr.heap.size) (p0 : wr.cell? ⟨g, i, none⟩ = some u) (p1 : wr.cell? ⟨h, j, none⟩ = some v) (hb : W.cell? ⟨g, i, none⟩ = some u ∧ W.cell? ⟨h, j, none⟩ = some v ∧ Below wr.heap.size wr W) {o : Obj} : (W.alloc o).drew.cell? ⟨g, i, none⟩ = some u ∧ (W.alloc o).drew.cell? ⟨h, j, none⟩ = some v ∧ Below wr.heap.size wr (W.alloc o).drew :=
  TwoB.of p0 p1 hg hh (hb.2.2.alloc hb.2.2.size o).drew
theorem TwoB.call (hg : g < wr.heap.size) (hh : h < wr.heap.size) (p0 : wr.cell? ⟨g, i, none⟩ = some u) (p1 : wr.cell? ⟨h, j, none⟩ = some v) (hc : Below W.heap.size W W2) (hb : W.cell? ⟨g, i, none⟩ = some u ∧ W.cell? ⟨h, j, none⟩ = some v ∧ Below wr.heap.size wr W) : W2.cell? ⟨g, i, none⟩ = some u ∧ W2.cell? ⟨h, j, none⟩ = some v ∧ Below wr.heap.size wr W2 :=
  TwoB.of p0 p1 hg hh (hb.2.2.trans (hc.mono hb.2.2.size))
theorem TwoB.set5 (hg : g < wr.heap.size) (hh : h < wr.heap.size) (p0 : wr.cell? ⟨g, i, none⟩ = some u) (p1 : wr.cell? ⟨h, j, none⟩ = some v) {x : Nat} (hx : wr.heap.size ≤ x) (hb : W.cell? ⟨g, i, none⟩ = some u ∧ W.cell? ⟨h, j, none⟩ = some v ∧ Below wr.heap.size wr W) {q0 q1 q2 q3 q4 : Nat} {u0 u1 u2 u3 u4 : Value} :
    (((((W.setCell ⟨x, q0, none⟩ u0).setCell ⟨x, q1, none⟩ u1).setCell ⟨x, q2, none⟩ u2).setCell ⟨x, q3, none⟩ u3).setCell ⟨x, q4, none⟩ u4).cell? ⟨g, i, none⟩ = some u ∧ (((((W.setCell ⟨x, q0, none⟩ u0).setCell ⟨x, q1, none⟩ u1).setCell ⟨x, q2, none⟩ u2).setCell ⟨x, q3, none⟩ u3).setCell ⟨x, q4, none⟩ u4).cell? ⟨h, j, none⟩ = some v ∧ Below wr.heap.size wr (((((W.setCell ⟨x, q0, none⟩ u0).setCell ⟨x, q1, none⟩ u1).setCell ⟨x, q2, none⟩ u2).setCell ⟨x, q3, none⟩ u3).setCell ⟨x, q4, none⟩ u4) :=
  TwoB.of p0 p1 hg hh (((((hb.2.2.setCell (p := ⟨x, q0, none⟩) hx u0).setCell (p := ⟨x, q1, none⟩) hx u1).setCell (p := ⟨x, q2, none⟩) hx u2).setCell (p := ⟨x, q3, none⟩) hx u3).setCell (p := ⟨x, q4, none⟩) hx u4)
end
end Go.Proofs.Ytlfenakabedmfaa
