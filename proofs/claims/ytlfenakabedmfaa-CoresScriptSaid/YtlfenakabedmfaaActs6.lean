/- A list of acts of chapter 6 as an argument, opened: an act has a struct in it. -/
import Derived.Test.YtlfenakabedmfaaSlices
import Derived.Test.YtlfenakabedmfaaTlb8
namespace Go.Proofs.Ytlfenakabedmfaa
open Go.ChangeShapes Go.WideShapes Go.Deep Go.RowKit
section
variable {H : Type} {enc : TypeId × Value → H} {P : Program} {w : World}
/-- The elements' cells, whatever fields an element has. -/
theorem open_rows_raw {t e : TypeId} {v : Value} {d : DataW H} {p : List MemPlace} {r : Reach} {b0 : Nat} (ht : P.underlying t = some (.slice e)) (h0 : 0 < P.cellsOf e)
    (hv : Value.okWide P w r b0 t v) (h : DataW.Trod enc P w 0 (fun _ => true) true t v d p) :
    ∃ (A : Option Addr) (n c : Nat), v = .slice A n c ∧ n ≤ maxLen ∧ (n = 0 ∨ ∃ b off, A = some ⟨b, off, none⟩ ∧ b < w.heap.size ∧ ∀ i, i < n →
      ∃ (cs : List Value) (fuel : Nat) (y : DataW H × List MemPlace), cs.length = P.cellsOf e ∧ (∀ j, j < P.cellsOf e → w.cell? ⟨b, off + i * P.cellsOf e + j, none⟩ = cs[j]?) ∧ DataW.trod enc P w 0 (fun _ => true) true fuel e cs = some y) := by
  obtain ⟨A, n, c, rfl⟩ := okWide_slice ht hv
  obtain ⟨fuel, hf⟩ := h
  refine ⟨A, n, c, rfl, ?_⟩
  rcases open_slice ht hf with ⟨hcs, _⟩ | ⟨a, len, cap, m, q, D, Pl, hcs, _, hl, hm, hmm, _, hi⟩
  · simp [Value.cells] at hcs
    obtain ⟨rfl, rfl, rfl⟩ := hcs
    exact ⟨Nat.zero_le _, .inl rfl⟩
  · simp [Value.cells] at hcs
    obtain ⟨rfl, rfl, rfl⟩ := hcs
    refine ⟨Nat.le_trans hl hm, ?_⟩
    simp only [if_true] at hmm
    rcases Nat.eq_zero_or_pos n with h0n | hpos
    · exact .inl h0n
    right
    obtain ⟨cs', hc, _⟩ := hi 0 (by omega)
    obtain ⟨_, hcl, hat⟩ := World.cells?_some hc
    have hc0 := hat 0 h0
    rw [List.getElem?_eq_getElem (by omega)] at hc0
    have hs : a.spot = none := by
      have := World.cell?_spot hc0
      simpa [Addr.add] using this
    obtain ⟨b, off, sp⟩ := a
    obtain rfl : sp = none := hs
    refine ⟨b, off, rfl, ?_, fun i hin => ?_⟩
    · have := World.block_lt_of_cell? w _ hc0
      simpa [Addr.add] using this
    · obtain ⟨cs', hc, ht'⟩ := hi i (by omega)
      obtain ⟨_, hcl, hat⟩ := World.cells?_some hc
      refine ⟨cs', q, _, hcl, fun j hj => ?_, ht'⟩
      rw [← hat j hj, Go.Deep.add_add, Addr.add_mid, Nat.add_assoc]
end
/-- An act of chapter 6. -/
structure Act6 where
  d : Int
  x : Tr
  s : Int
  k : Int
instance : Inhabited Act6 := ⟨⟨0, Tr.zero, 0, 0⟩⟩
def Acts6 (w : World) (A : Option Addr) (n : Nat) (xs : Nat → Act6) : Prop :=
  n = 0 ∨ ∃ b off, A = some ⟨b, off, none⟩ ∧ b < w.heap.size ∧ ∀ i, i < n →
    w.cell? ⟨b, off + i * 8, none⟩ = some (.int .i64 (xs i).d) ∧ w.cell? ⟨b, off + i * 8 + 1, none⟩ = some (.int .i64 (xs i).x.sp) ∧ w.cell? ⟨b, off + i * 8 + 2, none⟩ = some (.int .i64 (xs i).x.pg) ∧ w.cell? ⟨b, off + i * 8 + 3, none⟩ = some (.int .i64 (xs i).x.fr) ∧
      w.cell? ⟨b, off + i * 8 + 4, none⟩ = some (.bool (xs i).x.rd) ∧ w.cell? ⟨b, off + i * 8 + 5, none⟩ = some (.bool (xs i).x.wr) ∧ w.cell? ⟨b, off + i * 8 + 6, none⟩ = some (.int .i64 (xs i).s) ∧ w.cell? ⟨b, off + i * 8 + 7, none⟩ = some (.int .i64 (xs i).k)
section
variable {H : Type} {enc : TypeId × Value → H} {w : World}
theorem c6Int : Try.prog.cellsOf 3 = 1 := by kernel_rfl
theorem c6Bool : Try.prog.cellsOf 4 = 1 := by kernel_rfl
theorem c6Trans : Try.prog.cellsOf 42 = 5 := by kernel_rfl
end
end Go.Proofs.Ytlfenakabedmfaa
