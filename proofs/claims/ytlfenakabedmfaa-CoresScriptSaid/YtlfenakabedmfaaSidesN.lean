/- Two sides, of any number of cores. -/
import Derived.Test.YtlfenakabedmfaaRef7c
import Derived.Test.YtlfenakabedmfaaRef2
namespace Go.Proofs.Ytlfenakabedmfaa
open Go.RowKit Go.Shelf
/-- Two sides: cores and memory of the program, cores and memory of the reference; all their blocks apart. -/
structure SidesN (n : Nat) (w : World) (B H gb cap : Nat) (tl : Nat → Nat) (gf RH rgb rcap : Nat) (rtl : Nat → Nat) (rf : Nat) (K KR : Nat → Core) (m mr : Nat → Int) : Prop where
  cores : CoresAt w H gb cap n tl K
  mem : MemAt w (gf + 1) gf 8 8 m
  rcores : RCoresAt w RH rgb rcap n rtl KR
  ref : RefAt w (rf + 1) rf 8 64 mr
  s1 : ∀ k, crS H gb n tl k → B ≤ k ∧ k < RH
  s2 : gf + 1 < rf
  s3 : ∀ k, crS RH rgb n rtl k → RH ≤ k ∧ k < gf
  s4 : B ≤ gf
section
variable {w w' : World} {n B H gb cap : Nat} {tl : Nat → Nat} {gf RH rgb rcap : Nat} {rtl : Nat → Nat} {rf : Nat} {K KR K' : Nat → Core} {m mr m' : Nat → Int}
theorem SidesN.apart (h : SidesN n w B H gb cap tl gf RH rgb rcap rtl rf K KR m mr) : H < RH ∧ RH < gf ∧ gf + 1 < rf ∧ B ≤ H := by
  have h1 := h.s1 H (.inl rfl)
  have h2 := h.s3 RH (.inl rfl)
  exact ⟨h1.2, h2.2, h.s2, h1.1⟩
theorem SidesN.on (h : SidesN n w B H gb cap tl gf RH rgb rcap rtl rf K KR m mr) (hb : Below w.heap.size w w') : SidesN n w' B H gb cap tl gf RH rgb rcap rtl rf K KR m mr :=
  ⟨h.cores.on hb, h.mem.below hb h.mem.hd.lt h.mem.ltf, h.rcores.on hb, h.ref.below hb h.ref.hd.lt h.ref.ltf, h.s1, h.s2, h.s3, h.s4⟩
theorem SidesN.setMem (h : SidesN n w B H gb cap tl gf RH rgb rcap rtl rf K KR m mr) (hM : MemAt w' (gf + 1) gf 8 8 m') (hm : Mod (· = gf) w w') : SidesN n w' B H gb cap tl gf RH rgb rcap rtl rf K KR m' mr := by
  obtain ⟨a1, a2, a3, a4⟩ := h.apart
  refine ⟨h.cores.mod hm (fun k hk e => ?_), hM, h.rcores.mod hm (fun k hk e => ?_), h.ref.same (hm.block _ h.ref.hd.lt ?_) (hm.block _ h.ref.ltf ?_), h.s1, h.s2, h.s3, h.s4⟩
  · have := h.s1 k hk; have e' : k = gf := e; omega
  · have := h.s3 k hk; have e' : k = gf := e; omega
  · show ¬ (rf + 1 = gf); omega
  · show ¬ (rf = gf); omega
theorem SidesN.setRef (h : SidesN n w B H gb cap tl gf RH rgb rcap rtl rf K KR m mr) (hM : RefAt w' (rf + 1) rf 8 64 m') (hm : Mod (· = rf) w w') : SidesN n w' B H gb cap tl gf RH rgb rcap rtl rf K KR m m' := by
  obtain ⟨a1, a2, a3, a4⟩ := h.apart
  refine ⟨h.cores.mod hm (fun k hk e => ?_), h.mem.same (hm.block _ h.mem.hd.lt ?_) (hm.block _ h.mem.ltf ?_), h.rcores.mod hm (fun k hk e => ?_), hM, h.s1, h.s2, h.s3, h.s4⟩
  · have := h.s1 k hk; have e' : k = rf := e; omega
  · show ¬ (gf + 1 = rf); omega
  · show ¬ (gf = rf); omega
  · have := h.s3 k hk; have e' : k = rf := e; omega
theorem SidesN.setCores (h : SidesN n w B H gb cap tl gf RH rgb rcap rtl rf K KR m mr) (hC : CoresAt w' H gb cap n tl K') (hm : Mod (crS H gb n tl) w w') : SidesN n w' B H gb cap tl gf RH rgb rcap rtl rf K' KR m mr := by
  obtain ⟨a1, a2, a3, a4⟩ := h.apart
  refine ⟨hC, h.mem.same (hm.block _ h.mem.hd.lt fun e => ?_) (hm.block _ h.mem.ltf fun e => ?_), h.rcores.mod hm (fun k hk e => ?_), h.ref.same (hm.block _ h.ref.hd.lt fun e => ?_) (hm.block _ h.ref.ltf fun e => ?_), h.s1, h.s2, h.s3, h.s4⟩
  · have := h.s1 _ e; omega
  · have := h.s1 _ e; omega
  · have := h.s3 k hk; have := h.s1 _ e; omega
  · have := h.s1 _ e; omega
  · have := h.s1 _ e; omega
theorem SidesN.setRcores (h : SidesN n w B H gb cap tl gf RH rgb rcap rtl rf K KR m mr) (hC : RCoresAt w' RH rgb rcap n rtl K') (hm : Mod (crS RH rgb n rtl) w w') : SidesN n w' B H gb cap tl gf RH rgb rcap rtl rf K K' m mr := by
  obtain ⟨a1, a2, a3, a4⟩ := h.apart
  refine ⟨h.cores.mod hm (fun k hk e => ?_), h.mem.same (hm.block _ h.mem.hd.lt fun e => ?_) (hm.block _ h.mem.ltf fun e => ?_), hC, h.ref.same (hm.block _ h.ref.hd.lt fun e => ?_) (hm.block _ h.ref.ltf fun e => ?_), h.s1, h.s2, h.s3, h.s4⟩
  · have := h.s1 k hk; have := h.s3 _ e; omega
  · have := h.s3 _ e; omega
  · have := h.s3 _ e; omega
  · have := h.s3 _ e; omega
  · have := h.s3 _ e; omega
end
theorem SidesN.setBoth {w w' : World} {n B H gb cap : Nat} {tl : Nat → Nat} {gf RH rgb rcap : Nat} {rtl : Nat → Nat} {rf : Nat} {K KR K' : Nat → Core} {m mr m' : Nat → Int} (h : SidesN n w B H gb cap tl gf RH rgb rcap rtl rf K KR m mr) (hC : CoresAt w' H gb cap n tl K') (hM : MemAt w' (gf + 1) gf 8 8 m') (hm : Mod (fun j => crS H gb n tl j ∨ j = gf) w w') : SidesN n w' B H gb cap tl gf RH rgb rcap rtl rf K' KR m' mr := by
  obtain ⟨a1, a2, a3, a4⟩ := h.apart
  refine ⟨hC, hM, h.rcores.mod hm (fun k hk e => ?_), h.ref.same (hm.block _ h.ref.hd.lt fun e => ?_) (hm.block _ h.ref.ltf fun e => ?_), h.s1, h.s2, h.s3, h.s4⟩
  · have := h.s3 k hk
    rcases e with e | e
    · have := h.s1 _ e; omega
    · omega
  · rcases e with e | e
    · have := h.s1 _ e; omega
    · omega
  · rcases e with e | e
    · have := h.s1 _ e; omega
    · omega
section
variable {w : World} {n B H gb cap : Nat} {tl : Nat → Nat} {gf RH rgb rcap : Nat} {rtl : Nat → Nat} {rf : Nat} {K KR : Nat → Core} {m mr : Nat → Int}
theorem SidesN.top (h : SidesN n w B H gb cap tl gf RH rgb rcap rtl rf K KR m mr) : rf + 1 < w.heap.size := h.ref.hd.lt
theorem SidesN.offC (h : SidesN n w B H gb cap tl gf RH rgb rcap rtl rf K KR m mr) {P : Nat} (hP : rf + 1 < P) : ¬ crS H gb n tl P := fun e => by
  have := h.s1 _ e; have := h.apart; omega
theorem SidesN.offB (h : SidesN n w B H gb cap tl gf RH rgb rcap rtl rf K KR m mr) {P : Nat} (hP : rf + 1 < P) : ¬ (crS H gb n tl P ∨ P = gf) := fun e => by
  have := h.apart
  rcases e with e | e
  · exact h.offC hP e
  · omega
theorem SidesN.geB (h : SidesN n w B H gb cap tl gf RH rgb rcap rtl rf K KR m mr) : ∀ k, (crS H gb n tl k ∨ k = gf) → B ≤ k := fun k e => by
  have := h.s4
  rcases e with e | e
  · exact (h.s1 k e).1
  · omega
end
section
variable {w w' : World} {n B H gb cap : Nat} {tl : Nat → Nat} {gf RH rgb rcap : Nat} {rtl : Nat → Nat} {rf : Nat} {K KR K' : Nat → Core} {m mr m' : Nat → Int}
theorem SidesN.drew (h : SidesN n w B H gb cap tl gf RH rgb rcap rtl rf K KR m mr) : SidesN n (w.drew) B H gb cap tl gf RH rgb rcap rtl rf K KR m mr :=
  ⟨h.cores.same (fun _ _ => rfl), h.mem.same rfl rfl, h.rcores.same (fun _ _ => rfl), h.ref.same rfl rfl, h.s1, h.s2, h.s3, h.s4⟩
theorem SidesN.offM (h : SidesN n w B H gb cap tl gf RH rgb rcap rtl rf K KR m mr) {P : Nat} (hP : rf + 1 < P) : ¬ (P = gf) := fun e => by
  have := h.apart; omega
theorem SidesN.offRC (h : SidesN n w B H gb cap tl gf RH rgb rcap rtl rf K KR m mr) {P : Nat} (hP : rf + 1 < P) : ¬ crS RH rgb n rtl P := fun e => by
  have := h.s3 _ e; have := h.apart; omega
theorem SidesN.offRB (h : SidesN n w B H gb cap tl gf RH rgb rcap rtl rf K KR m mr) {P : Nat} (hP : rf + 1 < P) : ¬ (crS RH rgb n rtl P ∨ P = rf) := fun e => by
  rcases e with e | e
  · exact h.offRC hP e
  · omega
theorem SidesN.geRC (h : SidesN n w B H gb cap tl gf RH rgb rcap rtl rf K KR m mr) : ∀ k, crS RH rgb n rtl k → B ≤ k := fun k e => by
  have := h.s3 k e; have := h.apart; have := h.s4; omega
theorem SidesN.geRB (h : SidesN n w B H gb cap tl gf RH rgb rcap rtl rf K KR m mr) : ∀ k, (crS RH rgb n rtl k ∨ k = rf) → B ≤ k := fun k e => by
  rcases e with e | e
  · exact h.geRC k e
  · have := h.apart; have := h.s4; omega
end
end Go.Proofs.Ytlfenakabedmfaa
