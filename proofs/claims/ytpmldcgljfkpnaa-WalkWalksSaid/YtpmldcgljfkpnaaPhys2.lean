/- The walks of package phys that go over all frames: all, Zero, Copy. -/
import Derived.Test.YtpmldcgljfkpnaaPhys
import Derived.Test.YtpmldcgljfkpnaaIter
import Derived.Laws.Rows
import Derived.Deep.AppendLies
import Derived.Deep.MidRow
import Derived.BigQuiet
import Derived.Sort.BigQuietIn
namespace Go.Proofs.Ytpmldcgljfkpnaa
open Go.RowKit Go.Shelf
attribute [local go_sem] Oper.semAt_some

theorem MemAt.same {w w' : World} {g gf n cp : Nat} {m : Nat → Int} (h : MemAt w g gf n cp m) (h1 : w'.heap[g]? = w.heap[g]?) (h2 : w'.heap[gf]? = w.heap[gf]?) : MemAt w' g gf n cp m := by
  obtain ⟨cs, hr, hs, hc⟩ := h.row
  exact ⟨h.hd.same h1, ⟨cs, hr.same h2, hs, hc⟩, h.pos, h.le, h.ncp, h.word⟩

theorem frameA_one (m : Nat → Int) (k : Nat) : ∀ u ∈ (frameA m k).toList, u.oneCell' = true := by
  intro u hu
  simp [frameA] at hu
  rcases hu with rfl | rfl | rfl | rfl | rfl | rfl | rfl | rfl <;> rfl
/-! Zero: n frames from f on. -/
def zeroTo (m : Nat → Int) (f k : Nat) : Nat → Int := fun j => if 8 * f ≤ j ∧ j < 8 * (f + k) then 0 else m j
def zeroErr (n : Nat) (f k : Int) : Int := if f < 0 ∨ (n : Int) ≤ f ∨ k < 0 ∨ (n : Int) - f < k then 3 else 0

theorem wrap_sub {n f : Int} (h0 : 0 ≤ f) (h1 : f ≤ n) (h2 : n ≤ 64) : IntKind.i64.wrap (n - f) = n - f := IntWalk.i64_in _ (by omega)
theorem MemAt.zero8 {w : World} {g gf n cp : Nat} {m : Nat → Int} (h : MemAt w g gf n cp m) (x : Nat) (hx : x < n) :
    MemAt ((((((((w.setCell ⟨gf, x * 8, none⟩ (.int .u64 0)).setCell ⟨gf, x * 8 + 1, none⟩ (.int .u64 0)).setCell ⟨gf, x * 8 + 2, none⟩ (.int .u64 0)).setCell ⟨gf, x * 8 + 3, none⟩ (.int .u64 0)).setCell ⟨gf, x * 8 + 4, none⟩ (.int .u64 0)).setCell ⟨gf, x * 8 + 5, none⟩ (.int .u64 0)).setCell ⟨gf, x * 8 + 6, none⟩ (.int .u64 0)).setCell ⟨gf, x * 8 + 7, none⟩ (.int .u64 0)) g gf n cp
      (fun j => if x * 8 ≤ j ∧ j < x * 8 + 8 then 0 else m j) := by
  have h0 : (0 : Int) ≤ 0 ∧ (0 : Int) < 18446744073709551616 := by decide
  have hr := (((((((h.set_ (x * 8) (by omega) 0 h0).set_ (x * 8 + 1) (by omega) 0 h0).set_ (x * 8 + 2) (by omega) 0 h0).set_ (x * 8 + 3) (by omega) 0 h0).set_ (x * 8 + 4) (by omega) 0 h0).set_ (x * 8 + 5) (by omega) 0 h0).set_ (x * 8 + 6) (by omega) 0 h0).set_ (x * 8 + 7) (by omega) 0 h0
  have e : (fun j => if x * 8 ≤ j ∧ j < x * 8 + 8 then 0 else m j) = (fun i => if i = x * 8 + 7 then (0 : Int) else if i = x * 8 + 6 then 0 else if i = x * 8 + 5 then 0 else if i = x * 8 + 4 then 0 else if i = x * 8 + 3 then 0 else if i = x * 8 + 2 then 0 else if i = x * 8 + 1 then 0 else if i = x * 8 then 0 else m i) := by
    funext j
    by_cases hj : x * 8 ≤ j ∧ j < x * 8 + 8
    · rw [if_pos hj]
      repeat' split
      all_goals first | rfl | omega
    · rw [if_neg hj, if_neg (by omega), if_neg (by omega), if_neg (by omega), if_neg (by omega), if_neg (by omega), if_neg (by omega), if_neg (by omega), if_neg (by omega)]
  rw [e]
  exact hr
theorem zeroTo_succ {m : Nat → Int} {f k x : Nat} (hx : x = f + k) : (fun j => if x * 8 ≤ j ∧ j < x * 8 + 8 then 0 else zeroTo m f k j) = zeroTo m f (k + 1) := by
  subst hx
  funext j
  unfold zeroTo
  by_cases h1 : (f + k) * 8 ≤ j ∧ j < (f + k) * 8 + 8
  · rw [if_pos h1, if_pos (by omega)]
  · rw [if_neg h1]
    by_cases h2 : 8 * f ≤ j ∧ j < 8 * (f + k)
    · rw [if_pos h2, if_pos (by omega)]
    · rw [if_neg h2, if_neg (by omega)]
theorem Mod.set8 {S : Nat → Prop} {a w : World} {g : Nat} (h : Mod S a w) (hg : S g) (u : Value) (o0 o1 o2 o3 o4 o5 o6 o7 : Nat) :
    Mod S a ((((((((w.setCell ⟨g, o0, none⟩ u).setCell ⟨g, o1, none⟩ u).setCell ⟨g, o2, none⟩ u).setCell ⟨g, o3, none⟩ u).setCell ⟨g, o4, none⟩ u).setCell ⟨g, o5, none⟩ u).setCell ⟨g, o6, none⟩ u).setCell ⟨g, o7, none⟩ u) :=
  (((((((h.setCell (.inl hg) u).setCell (.inl hg) u).setCell (.inl hg) u).setCell (.inl hg) u).setCell (.inl hg) u).setCell (.inl hg) u).setCell (.inl hg) u).setCell (.inl hg) u
theorem KeepsFrom.set8 (B : Nat) (w : World) (g : Nat) (u : Value) (o0 o1 o2 o3 o4 o5 o6 o7 : Nat) :
    KeepsFrom B w ((((((((w.setCell ⟨g, o0, none⟩ u).setCell ⟨g, o1, none⟩ u).setCell ⟨g, o2, none⟩ u).setCell ⟨g, o3, none⟩ u).setCell ⟨g, o4, none⟩ u).setCell ⟨g, o5, none⟩ u).setCell ⟨g, o6, none⟩ u).setCell ⟨g, o7, none⟩ u) :=
  (keeps_set (keeps_set (keeps_set (keeps_set (keeps_set (keeps_set (keeps_set (keeps_set (KeepsOthers.refl w))))))))).from B

/-- Zero of any numbers. -/
def zeroV (n : Nat) (m : Nat → Int) (f k : Int) : Nat → Int := if zeroErr n f k = 0 then zeroTo m f.toNat k.toNat else m
end Go.Proofs.Ytpmldcgljfkpnaa
