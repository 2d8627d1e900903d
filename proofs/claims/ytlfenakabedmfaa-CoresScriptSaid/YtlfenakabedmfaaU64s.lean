/- A slice of words as an argument. -/
import Derived.Test.YtlfenakabedmfaaSlices
import Derived.ChangeSlices
namespace Go.Proofs.Ytlfenakabedmfaa
open Go.ChangeShapes Go.WideShapes Go.Deep Go.RowKit
/-- n words from a place on. -/
def U64At (w : World) (A : Option Addr) (n : Nat) (xs : Nat → Int) : Prop := n = 0 ∨ ∃ b off, A = some ⟨b, off, none⟩ ∧ b < w.heap.size ∧ ∀ i, i < n → w.cell? ⟨b, off + i, none⟩ = some (.int .u64 (xs i)) ∧ 0 ≤ xs i ∧ xs i < 18446744073709551616
theorem U64At.below {w w' : World} {A : Option Addr} {n : Nat} {xs : Nat → Int} (h : U64At w A n xs) (hb : Below w.heap.size w w') : U64At w' A n xs := by
  rcases h with h | ⟨b, off, h1, h2, h3⟩
  · exact .inl h
  · exact .inr ⟨b, off, h1, Nat.lt_of_lt_of_le h2 hb.size, fun i hi => ⟨(hb.cell (p := ⟨b, off + i, none⟩) h2).trans (h3 i hi).1, (h3 i hi).2⟩⟩
section
variable {H : Type} {enc : TypeId × Value → H} {w : World}
set_option maxRecDepth 100000 in
theorem open_u64s {v : Value} {d : DataW H} {p : List MemPlace} {r : Reach} {b0 : Nat} (hv : Value.okWide Try.prog w r b0 67 v) (h : DataW.Trod enc Try.prog w 0 (fun _ => true) true 67 v d p) :
    ∃ (A : Option Addr) (n c : Nat) (xs : Nat → Int), v = .slice A n c ∧ n ≤ maxLen ∧ U64At w A n xs := by
  obtain ⟨A, n, c, rfl⟩ := okWide_slice Try.underlying67 hv
  obtain ⟨fuel, hf⟩ := h
  rcases open_ints Try.underlying67 Try.underlying32 (by kernel_rfl) hf with ⟨hcs, _⟩ | ⟨a, len, cap, zs, hcs, _, hl, hm, hz, _, hcell, hwz⟩
  · simp [Value.cells] at hcs
    obtain ⟨rfl, rfl, rfl⟩ := hcs
    exact ⟨none, 0, 0, fun _ => 0, rfl, Nat.zero_le _, .inl rfl⟩
  · simp [Value.cells] at hcs
    obtain ⟨rfl, rfl, rfl⟩ := hcs
    refine ⟨_, n, c, fun i => zs.getD i 0, rfl, Nat.le_trans hl hm, ?_⟩
    rcases Nat.eq_zero_or_pos n with h0n | hpos
    · exact .inl h0n
    right
    simp only [if_true] at hz
    have hc0 := hcell 0 (by omega)
    have hs : a.spot = none := by
      have := World.cell?_spot hc0
      simpa [Addr.add] using this
    obtain ⟨b, off, sp⟩ := a
    obtain rfl : sp = none := hs
    refine ⟨b, off, rfl, ?_, fun i hi => ⟨?_, ?_⟩⟩
    · have := World.block_lt_of_cell? w _ hc0
      simpa [Addr.add] using this
    · have := hcell i (by omega)
      rw [Addr.add_mid] at this
      exact this
    · have hg : zs.getD i 0 ∈ zs := by
        rw [List.getD_eq_getElem?_getD, List.getElem?_eq_getElem (by omega : i < zs.length), Option.getD_some]
        exact List.getElem_mem _
      exact wfu (hwz _ hg)
end
end Go.Proofs.Ytlfenakabedmfaa
