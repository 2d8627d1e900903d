/- A call and an order by value, opened. -/
import Derived.Test.YtofmcaagnhdecaaDecE
import Derived.Test.YtofmcaagnhdecaaAgg
namespace Go.Proofs.Ytofmcaagnhdecaa
open Go.Joins Go.ChangeShapes Go.WideShapes Go.RowKit Go.Deep
section
variable {H : Type} {enc : TypeId × Value → H} {P : Program} {w : World} {base : Nat} {spare : Nat → Bool} {held : Bool}
theorem take1 {l : List Value} {i : Nat} {a : Value} (h : (l.drop i).take 1 = [a]) : l[i]? = some a := by
  have := congrArg (fun m : List Value => m[0]?) h
  simpa using this
theorem fld_int {n i : Nat} {k : IntKind} {fs : Array Field} {f : Field} {cs : List Value} {xs : List (DataW H × List MemPlace)} (hl : xs.length = fs.size) (hg : ∀ (i : Nat) (f : Field), fs[i]? = some f → DataW.trod enc P w base spare held n f.type ((cs.drop f.offset).take (P.cellsOf f.type)) = xs[i]?)
    (hf : fs[i]? = some f) (ht : P.underlying f.type = some (.int k)) (hC : P.cellsOf f.type = 1) : ∃ a, cs[f.offset]? = some (.int k a) ∧ (Lit.int k a).wf = true := by
  have h := hg i f hf
  have hi : i < xs.length := by rw [hl]; exact (Array.getElem?_eq_some_iff.1 hf).1
  rw [List.getElem?_eq_getElem hi, hC] at h
  obtain ⟨a, ha, _, hw⟩ := DataW.trod_int ht h
  exact ⟨a, take1 ha, hw⟩
theorem fld_arr {n i N : Nat} {e : TypeId} {k : IntKind} {fs : Array Field} {f : Field} {cs : List Value} {xs : List (DataW H × List MemPlace)} (hl : xs.length = fs.size) (hg : ∀ (i : Nat) (f : Field), fs[i]? = some f → DataW.trod enc P w base spare held n f.type ((cs.drop f.offset).take (P.cellsOf f.type)) = xs[i]?)
    (hf : fs[i]? = some f) (ht : P.underlying f.type = some (.array N e)) (he : P.underlying e = some (.int k)) (hC : P.cellsOf e = 1) (hN : P.cellsOf f.type = N) (j : Nat) (hj : j < N) : ∃ a, cs[f.offset + j]? = some (.int k a) ∧ (Lit.int k a).wf = true := by
  have h := hg i f hf
  have hi : i < xs.length := by rw [hl]; exact (Array.getElem?_eq_some_iff.1 hf).1
  rw [List.getElem?_eq_getElem hi, hN] at h
  obtain ⟨ys, m, _, _, _, hly, hy⟩ := DataW.trod_array ht h
  have h2 := hy j hj
  rw [List.getElem?_eq_getElem (by omega), hC, Nat.mul_one] at h2
  obtain ⟨a, ha, _, hw⟩ := DataW.trod_int he h2
  have := take1 ha
  rw [List.getElem?_take_of_lt hj, List.getElem?_drop] at this
  exact ⟨a, this, hw⟩
end
section
variable {H : Type} {enc : TypeId × Value → H} {w : World} {base : Nat} {spare : Nat → Bool} {held : Bool}
theorem cells_u64 : Try.prog.cellsOf 22 = 1 := by kernel_rfl
theorem cells_int : Try.prog.cellsOf 3 = 1 := by kernel_rfl
theorem cells_6 : Try.prog.cellsOf 23 = 6 := by kernel_rfl
theorem cells_3 : Try.prog.cellsOf 26 = 3 := by kernel_rfl
theorem cells_4 : Try.prog.cellsOf 27 = 4 := by kernel_rfl
theorem cells_call : Try.prog.cellsOf 25 = 7 := by kernel_rfl
theorem cells_order : Try.prog.cellsOf 29 = 12 := by kernel_rfl
theorem open_call {r : Reach} {b0 : Nat} {v : Value} {d : DataW H} {p : List MemPlace} (hv : Value.okWide Try.prog w r b0 25 v) (h : DataW.Trod enc Try.prog w base spare held 25 v d p) :
    ∃ (op : Int) (x : Nat → Int), v = .agg (callA op x) ∧ (0 ≤ op ∧ op < 18446744073709551616) ∧ U64 x := by
  obtain ⟨cs, rfl, hsz⟩ := okWide_struct Try.underlying25 hv
  obtain ⟨l⟩ := cs
  obtain ⟨fuel, hf⟩ := h
  obtain ⟨xs, n, _, _, _, hl, hg⟩ := DataW.trod_struct Try.underlying25 hf
  have hl7 : l.length = 7 := hsz.trans cells_call
  obtain ⟨a, ha, hwa⟩ := fld_int (i := 0) hl hg rfl Try.underlying22 cells_u64
  have hb := fld_arr (i := 1) hl hg rfl Try.underlying23 Try.underlying22 cells_u64 cells_6
  obtain ⟨a0, h0, w0⟩ := hb 0 (by decide)
  obtain ⟨a1, h1, w1⟩ := hb 1 (by decide)
  obtain ⟨a2, h2, w2⟩ := hb 2 (by decide)
  obtain ⟨a3, h3, w3⟩ := hb 3 (by decide)
  obtain ⟨a4, h4, w4⟩ := hb 4 (by decide)
  obtain ⟨a5, h5, w5⟩ := hb 5 (by decide)
  clear hb hg hf
  match l, hl7 with
  | [c, c0, c1, c2, c3, c4, c5], _ =>
    simp [Value.cells] at ha h0 h1 h2 h3 h4 h5
    subst ha h0 h1 h2 h3 h4 h5
    refine ⟨a, fun i => match i with | 0 => a0 | 1 => a1 | 2 => a2 | 3 => a3 | 4 => a4 | 5 => a5 | _ => 0, rfl, wfu hwa, fun i => ?_⟩
    match i with
    | 0 => exact wfu w0
    | 1 => exact wfu w1
    | 2 => exact wfu w2
    | 3 => exact wfu w3
    | 4 => exact wfu w4
    | 5 => exact wfu w5
    | _ + 6 => exact ⟨Int.le_refl _, by show (0 : Int) < 18446744073709551616; decide⟩
/-- An order's cells fit their kinds. -/
def OrdB (m : Nat → Int) : Prop := ∀ i, (i ≤ 6 → -9223372036854775808 ≤ m i ∧ m i ≤ 9223372036854775807) ∧ (7 ≤ i → 0 ≤ m i ∧ m i < 18446744073709551616)
theorem open_order {r : Reach} {b0 : Nat} {v : Value} {d : DataW H} {p : List MemPlace} (hv : Value.okWide Try.prog w r b0 29 v) (h : DataW.Trod enc Try.prog w base spare held 29 v d p) :
    ∃ (m : Nat → Int), v = .agg (ordA m) ∧ OrdB m := by
  obtain ⟨cs, rfl, hsz⟩ := okWide_struct Try.underlying29 hv
  obtain ⟨l⟩ := cs
  obtain ⟨fuel, hf⟩ := h
  obtain ⟨xs, n, _, _, _, hl, hg⟩ := DataW.trod_struct Try.underlying29 hf
  have hl12 : l.length = 12 := hsz.trans cells_order
  obtain ⟨a0, h0, w0⟩ := fld_int (i := 0) hl hg rfl Try.underlying3 cells_int
  obtain ⟨a1, h1, w1⟩ := fld_int (i := 1) hl hg rfl Try.underlying3 cells_int
  obtain ⟨a2, h2, w2⟩ := fld_int (i := 2) hl hg rfl Try.underlying3 cells_int
  obtain ⟨a3, h3, w3⟩ := fld_int (i := 3) hl hg rfl Try.underlying3 cells_int
  have hn := fld_arr (i := 4) hl hg rfl Try.underlying26 Try.underlying3 cells_int cells_3
  obtain ⟨a7, h7, w7⟩ := fld_int (i := 5) hl hg rfl Try.underlying22 cells_u64
  have hm := fld_arr (i := 6) hl hg rfl Try.underlying27 Try.underlying22 cells_u64 cells_4
  obtain ⟨a4, h4, w4⟩ := hn 0 (by decide)
  obtain ⟨a5, h5, w5⟩ := hn 1 (by decide)
  obtain ⟨a6, h6, w6⟩ := hn 2 (by decide)
  obtain ⟨a8, h8, w8⟩ := hm 0 (by decide)
  obtain ⟨a9, h9, w9⟩ := hm 1 (by decide)
  obtain ⟨a10, h10, w10⟩ := hm 2 (by decide)
  obtain ⟨a11, h11, w11⟩ := hm 3 (by decide)
  clear hn hm hg hf
  match l, hl12 with
  | [c0, c1, c2, c3, c4, c5, c6, c7, c8, c9, c10, c11], _ =>
    simp [Value.cells] at h0 h1 h2 h3 h4 h5 h6 h7 h8 h9 h10 h11
    subst h0 h1 h2 h3 h4 h5 h6 h7 h8 h9 h10 h11
    refine ⟨fun i => match i with | 0 => a0 | 1 => a1 | 2 => a2 | 3 => a3 | 4 => a4 | 5 => a5 | 6 => a6 | 7 => a7 | 8 => a8 | 9 => a9 | 10 => a10 | 11 => a11 | _ => 0, rfl, fun i => ?_⟩
    match i with
    | 0 => exact ⟨fun _ => wfi w0, fun h => absurd h (by decide)⟩
    | 1 => exact ⟨fun _ => wfi w1, fun h => absurd h (by decide)⟩
    | 2 => exact ⟨fun _ => wfi w2, fun h => absurd h (by decide)⟩
    | 3 => exact ⟨fun _ => wfi w3, fun h => absurd h (by decide)⟩
    | 4 => exact ⟨fun _ => wfi w4, fun h => absurd h (by decide)⟩
    | 5 => exact ⟨fun _ => wfi w5, fun h => absurd h (by decide)⟩
    | 6 => exact ⟨fun _ => wfi w6, fun h => absurd h (by decide)⟩
    | 7 => exact ⟨fun h => absurd h (by decide), fun _ => wfu w7⟩
    | 8 => exact ⟨fun h => absurd h (by decide), fun _ => wfu w8⟩
    | 9 => exact ⟨fun h => absurd h (by decide), fun _ => wfu w9⟩
    | 10 => exact ⟨fun h => absurd h (by decide), fun _ => wfu w10⟩
    | 11 => exact ⟨fun h => absurd h (by decide), fun _ => wfu w11⟩
    | k + 12 => exact ⟨fun h => absurd h (by omega), fun _ => ⟨Int.le_refl _, by show (0 : Int) < 18446744073709551616; decide⟩⟩
end
end Go.Proofs.Ytofmcaagnhdecaa
