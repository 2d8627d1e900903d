/- Chapter 8: `ready`, what it lays in memory. -/
import Derived.Test.YtlfenakabedmfaaRef7c
import Derived.Test.YtlfenakabedmfaaRef2
namespace Go.Proofs.Ytlfenakabedmfaa
open Go.RowKit Go.Shelf
/-- The words that it stores: a place, then what lies there. -/
def layV (i : Nat) : Int := [0, 257, 64, 513, 72, 65536, 128, 775, 136, 1035, 144, 1295, 152, 1543, 160, 1807, 168, 16135].getD i 0
theorem layV_bd : ∀ i : Fin 18, 0 ≤ layV i.val ∧ layV i.val < 18446744073709551616 := by decide +kernel
/-- The memory behind t stores. -/
def readyM : Nat → Nat → Int
  | 0 => fun _ => 0
  | t + 1 => storeV 8 (readyM t) (layV (2 * t)) (layV (2 * t + 1))
/-- Two sides: cores and memory of the program, cores and memory of the reference; all their blocks apart. -/
structure Sides (w : World) (B H gb cap : Nat) (tl : Nat → Nat) (gf RH rgb rcap : Nat) (rtl : Nat → Nat) (rf : Nat) (K KR : Nat → Core) (m mr : Nat → Int) : Prop where
  cores : CoresAt w H gb cap 2 tl K
  mem : MemAt w (gf + 1) gf 8 8 m
  rcores : RCoresAt w RH rgb rcap 2 rtl KR
  ref : RefAt w (rf + 1) rf 8 64 mr
  s1 : ∀ k, crS H gb 2 tl k → B ≤ k ∧ k < gf
  s2 : gf + 1 < RH
  s3 : ∀ k, crS RH rgb 2 rtl k → RH ≤ k ∧ k < rf
  s4 : B ≤ gf
section
variable {w w' : World} {B H gb cap : Nat} {tl : Nat → Nat} {gf RH rgb rcap : Nat} {rtl : Nat → Nat} {rf : Nat} {K KR K' : Nat → Core} {m mr m' : Nat → Int}
theorem Sides.apart (h : Sides w B H gb cap tl gf RH rgb rcap rtl rf K KR m mr) : H < gf ∧ RH < rf ∧ gf + 1 < RH ∧ B ≤ H := by
  have h1 := h.s1 H (.inl rfl)
  have h2 := h.s3 RH (.inl rfl)
  exact ⟨h1.2, h2.2, h.s2, h1.1⟩
theorem Sides.on (h : Sides w B H gb cap tl gf RH rgb rcap rtl rf K KR m mr) (hb : Below w.heap.size w w') : Sides w' B H gb cap tl gf RH rgb rcap rtl rf K KR m mr :=
  ⟨h.cores.on hb, h.mem.below hb h.mem.hd.lt h.mem.ltf, h.rcores.on hb, h.ref.below hb h.ref.hd.lt h.ref.ltf, h.s1, h.s2, h.s3, h.s4⟩
theorem Sides.setMem (h : Sides w B H gb cap tl gf RH rgb rcap rtl rf K KR m mr) (hM : MemAt w' (gf + 1) gf 8 8 m') (hm : Mod (· = gf) w w') : Sides w' B H gb cap tl gf RH rgb rcap rtl rf K KR m' mr := by
  obtain ⟨a1, a2, a3, a4⟩ := h.apart
  refine ⟨h.cores.mod hm (fun k hk e => ?_), hM, h.rcores.mod hm (fun k hk e => ?_), h.ref.same (hm.block _ h.ref.hd.lt ?_) (hm.block _ h.ref.ltf ?_), h.s1, h.s2, h.s3, h.s4⟩
  · have := h.s1 k hk; have e' : k = gf := e; omega
  · have := h.s3 k hk; have e' : k = gf := e; omega
  · show ¬ (rf + 1 = gf); omega
  · show ¬ (rf = gf); omega
theorem Sides.setRef (h : Sides w B H gb cap tl gf RH rgb rcap rtl rf K KR m mr) (hM : RefAt w' (rf + 1) rf 8 64 m') (hm : Mod (· = rf) w w') : Sides w' B H gb cap tl gf RH rgb rcap rtl rf K KR m m' := by
  obtain ⟨a1, a2, a3, a4⟩ := h.apart
  refine ⟨h.cores.mod hm (fun k hk e => ?_), h.mem.same (hm.block _ h.mem.hd.lt ?_) (hm.block _ h.mem.ltf ?_), h.rcores.mod hm (fun k hk e => ?_), hM, h.s1, h.s2, h.s3, h.s4⟩
  · have := h.s1 k hk; have e' : k = rf := e; omega
  · show ¬ (gf + 1 = rf); omega
  · show ¬ (gf = rf); omega
  · have := h.s3 k hk; have e' : k = rf := e; omega
theorem Sides.setCores (h : Sides w B H gb cap tl gf RH rgb rcap rtl rf K KR m mr) (hC : CoresAt w' H gb cap 2 tl K') (hm : Mod (crS H gb 2 tl) w w') : Sides w' B H gb cap tl gf RH rgb rcap rtl rf K' KR m mr := by
  obtain ⟨a1, a2, a3, a4⟩ := h.apart
  refine ⟨hC, h.mem.same (hm.block _ h.mem.hd.lt fun e => ?_) (hm.block _ h.mem.ltf fun e => ?_), h.rcores.mod hm (fun k hk e => ?_), h.ref.same (hm.block _ h.ref.hd.lt fun e => ?_) (hm.block _ h.ref.ltf fun e => ?_), h.s1, h.s2, h.s3, h.s4⟩
  · have := h.s1 _ e; omega
  · have := h.s1 _ e; omega
  · have := h.s3 k hk; have := h.s1 _ e; omega
  · have := h.s1 _ e; omega
  · have := h.s1 _ e; omega
theorem Sides.setRcores (h : Sides w B H gb cap tl gf RH rgb rcap rtl rf K KR m mr) (hC : RCoresAt w' RH rgb rcap 2 rtl K') (hm : Mod (crS RH rgb 2 rtl) w w') : Sides w' B H gb cap tl gf RH rgb rcap rtl rf K K' m mr := by
  obtain ⟨a1, a2, a3, a4⟩ := h.apart
  refine ⟨h.cores.mod hm (fun k hk e => ?_), h.mem.same (hm.block _ h.mem.hd.lt fun e => ?_) (hm.block _ h.mem.ltf fun e => ?_), hC, h.ref.same (hm.block _ h.ref.hd.lt fun e => ?_) (hm.block _ h.ref.ltf fun e => ?_), h.s1, h.s2, h.s3, h.s4⟩
  · have := h.s1 k hk; have := h.s3 _ e; omega
  · have := h.s3 _ e; omega
  · have := h.s3 _ e; omega
  · have := h.s3 _ e; omega
  · have := h.s3 _ e; omega
end
end Go.Proofs.Ytlfenakabedmfaa
