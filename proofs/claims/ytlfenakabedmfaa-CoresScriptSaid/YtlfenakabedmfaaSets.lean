/- Set at any core and numbers: cores, and chapter 7's own answer. -/
import Derived.Test.YtlfenakabedmfaaRef7
namespace Go.Proofs.Ytlfenakabedmfaa
open Go.RowKit Go.Shelf
open Classical in
def csetE (n : Nat) (k r s : Int) : Int := if k < 0 ∨ (n : Int) ≤ k then 3 else if setOk r s then 0 else 2
open Classical in
def csetK (n : Nat) (K : Nat → Core) (k r s : Int) : Nat → Core := if k < 0 ∨ (n : Int) ≤ k then K else if setOk r s then upd K k.toNat ⟨r, s, (K k.toNat).c⟩ else K
theorem cset_any (g gb cap n : Nat) (tl : Nat → Nat) (K : Nat → Core) (k r s : Int) (w : World) (hC : CoresAt w g gb cap n tl K) :
    Calls Try.prog 17 #[.pointer (some ⟨g, 0, none⟩), .int .i64 k, .int .i64 r, .int .i64 s] w fun e w' => e = .returned (.int .i64 (csetE n k r s)) ∧ CoresAt w' g gb cap n tl (csetK n K k r s) ∧ Mod (crS g gb n tl) w w' := by
  unfold csetE csetK
  by_cases hk : k < 0 ∨ (n : Int) ≤ k
  · rw [if_pos hk, if_pos hk]
    exact (cset_bad g gb cap n tl K k r s w hC hk).mono fun _ _ h => ⟨h.1, h.2 ▸ hC, h.2 ▸ Mod.refl _ _⟩
  rw [if_neg hk, if_neg hk]
  obtain ⟨i, rfl⟩ : ∃ i : Nat, k = i := ⟨k.toNat, by omega⟩
  rw [Int.toNat_natCast]
  by_cases hs : setOk r s
  · rw [if_pos hs, if_pos hs]
    exact (cset_yes g gb cap n tl K i r s w hC (by omega) hs).mono fun _ _ h => ⟨h.1, h.2.1, Mod.cr h.2.2⟩
  · rw [if_neg hs, if_neg hs]
    exact (cset_no g gb cap n tl K i r s w hC (by omega) hs).mono fun _ _ h => ⟨h.1, h.2 ▸ hC, h.2 ▸ Mod.refl _ _⟩
theorem rcset_any (g gb cap n : Nat) (tl : Nat → Nat) (K : Nat → Core) (k r s : Int) (w : World) (hC : RCoresAt w g gb cap n tl K) :
    Calls Try.prog 38 #[.pointer (some ⟨g, 0, none⟩), .int .i64 k, .int .i64 r, .int .i64 s] w fun e w' => e = .returned (.int .i64 (csetE n k r s)) ∧ RCoresAt w' g gb cap n tl (csetK n K k r s) ∧ Mod (crS g gb n tl) w w' := by
  unfold csetE csetK
  by_cases hk : k < 0 ∨ (n : Int) ≤ k
  · rw [if_pos hk, if_pos hk]
    exact (rcset_bad g gb cap n tl K k r s w hC hk).mono fun _ _ h => ⟨h.1, h.2 ▸ hC, h.2 ▸ Mod.refl _ _⟩
  rw [if_neg hk, if_neg hk]
  obtain ⟨i, rfl⟩ : ∃ i : Nat, k = i := ⟨k.toNat, by omega⟩
  rw [Int.toNat_natCast]
  by_cases hs : setOk r s
  · rw [if_pos hs, if_pos hs]
    exact (rcset_yes g gb cap n tl K i r s w hC (by omega) hs).mono fun _ _ h => ⟨h.1, h.2.1, Mod.cr h.2.2⟩
  · rw [if_neg hs, if_neg hs]
    exact (rcset_no g gb cap n tl K i r s w hC (by omega) hs).mono fun _ _ h => ⟨h.1, h.2 ▸ hC, h.2 ▸ Mod.refl _ _⟩
end Go.Proofs.Ytlfenakabedmfaa
