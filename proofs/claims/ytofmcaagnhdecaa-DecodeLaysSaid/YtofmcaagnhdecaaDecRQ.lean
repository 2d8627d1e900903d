/- The letters' roles in the reference's Encode: plain facts. -/
import Derived.Test.YtofmcaagnhdecaaDecRD
import Derived.Test.YtofmcaagnhdecaaDecN
import Derived.Test.YtofmcaagnhdecaaDecM
namespace Go.Proofs.Ytofmcaagnhdecaa
open Go.RowKit Go.Shelf

theorem rdecode_any (op : Int) (x : Nat → Int) (w : World) (hx : U64 x) : Calls Try.prog 8 #[.agg (callA op x)] w (DecPost (decV op x) w) := by
  cases hf : formL op with
  | none => exact rdecode_none op x w hf
  | some fs => exact rdecode_some op x w fs hf hx
def firstB (fs : List (Int × Int × Nat)) (k : Nat) : Bool := (fs.take k).all fun f => decide (f.2.2 ≠ 1)
def msgN (fs : List (Int × Int × Nat)) (k : Nat) : Nat := ((fs.take k).filter fun f => decide (8 ≤ f.2.2)).length
/-- Do four words stand at the text's end? -/
def wwB (s : ByteArray) : Bool := decide (4 ≤ s.size) && ((s.extract (s.size - 4) s.size).toList == [119, 119, 119, 119])
def roleB (fs : List (Int × Int × Nat)) (b : Bool) (k : Nat) (L : Int) (t : Nat) : Bool :=
  if t = 1 then decide (L = 97) && firstB fs k && !firstB fs (k + 1) && decide (msgN fs (k + 1) = msgN fs k) else
  if t = 2 then decide (L = 97) && !firstB fs k && !firstB fs (k + 1) && decide (msgN fs (k + 1) = msgN fs k) else
  if t = 7 then decide (L = 119) && !b && decide (firstB fs (k + 1) = firstB fs k) && decide (msgN fs (k + 1) = msgN fs k) else
  if t = 4 then decide (L ≠ 97) && decide (L ≠ 119) && decide (firstB fs (k + 1) = firstB fs k) && decide (msgN fs (k + 1) = msgN fs k) else
  decide (8 ≤ t) && decide (t ≤ 11) && decide (L = 119) && b && decide (firstB fs (k + 1) = firstB fs k) && decide (msgN fs k + 8 = t) && decide (msgN fs (k + 1) = msgN fs k + 1)
def rolesB (op : Int) (fs : List (Int × Int × Nat)) : Bool :=
  decide (op = 1) || (List.range fs.length).all fun k => roleB fs (wwB (formSB op)) k (((formSB op).data.toList.getD k 0).toNat : Int) (fs.getD k (0, 0, 0)).2.2
set_option maxRecDepth 100000 in
theorem roles_ok {op : Int} {fs : List (Int × Int × Nat)} (h : formL op = some fs) : rolesB op fs = true := by
  refine formL_elim (P := fun op fs => rolesB op fs = true) (by decide +kernel) (by decide +kernel) (by decide +kernel) (by decide +kernel) (by decide +kernel) (by decide +kernel) (by decide +kernel) (by decide +kernel) (by decide +kernel) (by decide +kernel) (by decide +kernel) (by decide +kernel) (by decide +kernel) (by decide +kernel) (by decide +kernel) (by decide +kernel) (by decide +kernel) (by decide +kernel) (by decide +kernel) (by decide +kernel) (by decide +kernel) (by decide +kernel) (by decide +kernel) h
structure Roles (fs : List (Int × Int × Nat)) (s : ByteArray) : Prop where
  size : s.size = fs.length
  some_ : (s.toList == [63]) = false
  at_ : ∀ (k : Nat) (f : Int × Int × Nat), fs[k]? = some f → ∃ L : Int, (∀ w, (Instr.index 9 (.string s) (.int .i64 (k : Int))).run Try.prog w = .ok (.int .u8 L) w) ∧ roleB fs (wwB s) k L f.2.2 = true
theorem roles_of {op : Int} {fs : List (Int × Int × Nat)} (h : formL op = some fs) (h1 : ¬ op = 1) : Roles fs (formSB op) := by
  have hl := letters_of h
  have hr := roles_ok h
  unfold rolesB at hr
  rw [decide_eq_false h1, Bool.false_or] at hr
  generalize formSB op = s at *
  refine ⟨hl.size, hl.some_, fun k f hf => ?_⟩
  have hk := (List.getElem?_eq_some_iff.1 hf).1
  have hks : k < s.size := hl.size ▸ hk
  refine ⟨((s[k]'hks).toNat : Int), fun w => ?_, ?_⟩
  · rw [run_index_string w 9 s .i64 k (by kernel_rfl), dif_pos (by omega)]
    rfl
  · have h4 := List.all_eq_true.1 hr k (List.mem_range.2 hk)
    have e1 : fs.getD k (0, 0, 0) = f := by rw [List.getD_eq_getElem?_getD, hf]; rfl
    have e2 : s.data.toList.getD k 0 = s[k]'hks := by
      rw [List.getD_eq_getElem?_getD, Array.getElem?_toList, Array.getElem?_eq_getElem (show k < s.data.size from hks)]; rfl
    rw [e1, e2] at h4
    exact h4
theorem run_slice_tail {P : Program} (t : TypeId) (s : ByteArray) (i : Int) (h : P.underlying t = some .string) (h0 : 0 ≤ i) (h1 : i ≤ s.size) (w : World) :
    (Instr.slice t (.string s) (some (.int .i64 i)) none none).run P w = .ok (.string (s.extract i.toNat s.size)) w := by
  have hi : 0 ≤ i ∧ i ≤ (s.size : Int) := ⟨h0, h1⟩
  simp [Instr.slice, Instr.sliceBounds, Instr.sliceBound, asIntOf, run_underlying h, hi]
theorem msgN_le {fs : List (Int × Int × Nat)} {k : Nat} : msgN fs k ≤ k := by
  unfold msgN
  exact Nat.le_trans (List.length_filter_le _ _) (by rw [List.length_take]; omega)
/-- What Encode answers, as the reference asks it. -/
theorem encV_alt {m : Nat → Int} (h0 : ¬ m 0 < 0) (h6 : ¬ (m 0 = 1 ∧ m 6 < 0)) : encV m = if (decV (m 0) (encX m)).2 = 0 ∧ ordB (decV (m 0) (encX m)).1 m = true then ((m 0, encX m), 0) else ((0, fun _ => 0), 5) := by
  unfold encV
  by_cases h : m 6 < 0
  · rw [if_pos (.inr h)]
    have h1 : ¬ m 0 = 1 := fun e => h6 ⟨e, h⟩
    rw [if_neg]
    rintro ⟨hc, hb⟩
    obtain ⟨fs, hf, _, _, e⟩ := decV_ok hc
    have hsh := formL_shape hf
    unfold shapeB at hsh
    rw [Bool.and_eq_true, if_neg h1] at hsh
    have h7 := (ordB_true _ _).1 hb 6 (by decide)
    rw [e] at h7
    have h8 : finM (m 0) (mTo fs (encX m) 6) 6 = mTo fs (encX m) 6 6 + 16 * mTo fs (encX m) 6 12 := rfl
    have hne : ∀ f ∈ fs, f.2.2 ≠ 6 ∧ f.2.2 ≠ 12 := fun f hf => by
      have := List.all_eq_true.1 hsh.2 f hf
      rw [Bool.and_eq_true, decide_eq_true_iff, decide_eq_true_iff] at this
      exact this
    rw [mTo_zero 6 (fun f hf => (hne f hf).1), mTo_zero 6 (fun f hf => (hne f hf).2)] at h8
    have h7' : finM (m 0) (mTo fs (encX m) 6) 6 = m 6 := h7
    omega
  · rw [if_neg (by omega)]
/-- What the reference's Encode has laid when k words are there. -/
structure REnc (w : World) (H : Nat) (m : Nat → Int) (k : Nat) (W : World) : Prop where
  box : Blk W H 29 (ordA m)
  res : Blk W (H + 1) 25 (callA 0 fun _ => 0)
  c : Blk W (H + 1 + 1) 25 (callA (m 0) (encK m k))
  below : Below H w W
  size : H + 3 ≤ W.heap.size
section
variable {w W W' : World} {H k : Nat} {m : Nat → Int}
theorem REnc.bel (h : REnc w H m k W) (hb : Below W.heap.size W W') : REnc w H m k W' :=
  ⟨blk_call h.box hb, blk_call h.res hb, blk_call h.c hb, h.below.trans (hb.mono (by have := h.size; omega)), by have := h.size; have := hb.size; omega⟩
theorem REnc.alloc (h : REnc w H m k W) (o : Obj) : REnc w H m k (W.alloc o) := h.bel ((Below.refl _ W).alloc (Nat.le_refl _) o)
theorem REnc.step (h : REnc w H m k W) (hk : k < 6) : REnc w H m (k + 1) (W.setCell ⟨H + 1 + 1, 1 + k, none⟩ (.int .u64 (encX m k))) := by
  rw [Nat.add_comm 1 k]
  have hc := h.c.set_ (k + 1) (.int .u64 (encX m k))
  rw [callA_set _ _ _ _ hk, encK_succ] at hc
  exact ⟨h.box.far (by show _ ≠ H + 1 + 1; omega) _, h.res.far (by show _ ≠ H + 1 + 1; omega) _, hc, h.below.setCell (by show _ ≤ H + 1 + 1; omega) _, by simpa [World.setCell] using h.size⟩
end
theorem encX_n {m : Nat → Int} {fs : List (Int × Int × Nat)} (hf : formL (m 0) = some fs) (h1 : ¬ m 0 = 1) {k : Nat} {f : Int × Int × Nat} (hk : fs[k]? = some f) (ht : f.2.2 ≤ 11) : encX m k = if isW f.2.2 then m f.2.2 else IntKind.u64.wrap (m f.2.2) := by
  have e : encM m f.2.2 = m f.2.2 := by unfold encM; rw [if_neg h1]; exact if_neg (by omega)
  unfold encX
  rw [hf]
  dsimp only
  rw [hk]
  show getM (encM m) f.2.2 = _
  unfold getM
  rw [e]
theorem encX_1 {m : Nat → Int} (h1 : m 0 = 1) : callA (m 0) (encX m) = #[.int .u64 (m 0), .int .u64 (IntKind.u64.wrap (m 1)), .int .u64 (IntKind.u64.wrap (m 4)), .int .u64 (IntKind.u64.wrap (m 5)), .int .u64 (IntKind.u64.wrap (m 2)), .int .u64 (IntKind.u64.wrap (m 6 % 16)), .int .u64 (IntKind.u64.wrap (m 6 / 16))] := by
  have hf : formL (m 0) = some [(0, 4095, 1), (0, 15, 4), (0, 64, 5), (0, 4095, 2), (0, 15, 6), (1, 4, 12)] := by rw [h1]; rfl
  have e : ∀ k, encX m k = match ([(0, 4095, 1), (0, 15, 4), (0, 64, 5), (0, 4095, 2), (0, 15, 6), (1, 4, 12)] : List (Int × Int × Nat))[k]? with | some f => getM (encM m) f.2.2 | none => 0 := fun k => by unfold encX; rw [hf]; rfl
  have em : encM m = fun j => if j = 6 then m 6 % 16 else if j = 12 then m 6 / 16 else m j := by unfold encM; rw [if_pos h1]
  unfold callA
  rw [e 0, e 1, e 2, e 3, e 4, e 5, em]
  rfl
end Go.Proofs.Ytofmcaagnhdecaa
