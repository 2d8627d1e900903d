/- A list of acts of chapter 2 as an argument, opened. -/
import Derived.Test.YtfjhchcnhmafkaaSlices
import Derived.Test.YtfjhchcnhmafkaaLaw2b
namespace Go.Proofs.Ytfjhchcnhmafkaa
open Go.ChangeShapes Go.WideShapes Go.Deep Go.RowKit
instance : Inhabited ActC := ⟨⟨0, 0, 0, 0, 0⟩⟩
section
variable {H : Type} {enc : TypeId × Value → H} {w : World}
set_option maxRecDepth 100000 in
theorem open_acts2 {v : Value} {d : DataW H} {p : List MemPlace} {r : Reach} {b0 : Nat} (hv : Value.okWide Try.prog w r b0 35 v) (h : DataW.Trod enc Try.prog w 0 (fun _ => true) true 35 v d p) :
    ∃ (A : Option Addr) (n c : Nat) (xs : Nat → ActC), v = .slice A n c ∧ n ≤ maxLen ∧ ActsAt w A n xs := by
  obtain ⟨A, n, c, rfl, hn, h0 | ⟨b, off, rfl, hb, hc⟩⟩ := open_rows Try.underlying35 Try.underlying42 (by kernel_rfl) (by kernel_rfl) (show 0 < 5 by decide) hv h
  · exact ⟨A, n, c, default, rfl, hn, .inl h0⟩
  · obtain ⟨xs, hx⟩ := choose_below (α := ActC) (n := n) (p := fun i x => (w.cell? ⟨b, off + i * 5, none⟩ = some (.int .i64 x.d) ∧ w.cell? ⟨b, off + i * 5 + 1, none⟩ = some (.int .u64 x.a) ∧ w.cell? ⟨b, off + i * 5 + 2, none⟩ = some (.int .u64 x.v) ∧
      w.cell? ⟨b, off + i * 5 + 3, none⟩ = some (.int .i64 x.f) ∧ w.cell? ⟨b, off + i * 5 + 4, none⟩ = some (.int .i64 x.n)) ∧ (0 ≤ x.a ∧ x.a < 18446744073709551616) ∧ (0 ≤ x.v ∧ x.v < 18446744073709551616)) (fun i hi => by
        obtain ⟨u0, f0, y0, c0, t0⟩ := hc i hi 0 _ rfl
        obtain ⟨u1, f1, y1, c1, t1⟩ := hc i hi 1 _ rfl
        obtain ⟨u2, f2, y2, c2, t2⟩ := hc i hi 2 _ rfl
        obtain ⟨u3, f3, y3, c3, t3⟩ := hc i hi 3 _ rfl
        obtain ⟨u4, f4, y4, c4, t4⟩ := hc i hi 4 _ rfl
        obtain ⟨x0, e0, _, w0⟩ := DataW.trod_int Try.underlying3 t0
        obtain ⟨x1, e1, _, w1⟩ := DataW.trod_int Try.underlying40 t1
        obtain ⟨x2, e2, _, w2⟩ := DataW.trod_int Try.underlying40 t2
        obtain ⟨x3, e3, _, w3⟩ := DataW.trod_int Try.underlying3 t3
        obtain ⟨x4, e4, _, w4⟩ := DataW.trod_int Try.underlying3 t4
        simp at e0 e1 e2 e3 e4
        subst e0 e1 e2 e3 e4
        exact ⟨⟨x0, x1, x2, x3, x4⟩, ⟨c0, c1, c2, c3, c4⟩, wfu w1, wfu w2⟩)
    exact ⟨_, n, c, xs, rfl, hn, .inr ⟨b, off, rfl, hb, hx⟩⟩
end
end Go.Proofs.Ytfjhchcnhmafkaa
