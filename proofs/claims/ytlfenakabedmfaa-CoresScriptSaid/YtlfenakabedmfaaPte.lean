/- The walks of package pte: May, flags, Encode, each at every argument of its types. -/
import Derived.Test.YtlfenakabedmfaaWord
import Derived.RegionTactic
import Derived.ChangeAlike
import Derived.BigRegion
namespace Go.Proofs.Ytlfenakabedmfaa
open Go.RowKit

/-- May the entry be? -/
def mayB (v l r s : Bool) (f : Int) : Bool := if v then decide (0 ≤ f ∧ f < 64) && (l == (r || s)) else !l && !r && !s && f == 0
set_option maxHeartbeats 1000000 in
theorem pmay_off (l r s : Bool) (f : Int) (w : World) :
    Calls Try.prog 95 #[.agg #[.bool false, .bool l, .bool r, .bool s, .int .i64 f]] w fun e w' => e = .returned (.bool (mayB false l r s f)) ∧ Below w.heap.size w w' := by
  by_cases hf : f = 0
  · subst hf
    cases l <;> cases r <;> cases s
    all_goals
      go_enter Try.func95, Try.ntmps95
      go_wp2
      go_ret
      exact ⟨rfl, by go_grown⟩
  · have e : mayB false l r s f = false := by simp [mayB, hf]
    have t : (f == 0) = false := beq_eq_false_iff_ne.2 hf
    rw [e]
    clear e hf
    cases l <;> cases r <;> cases s
    all_goals
      go_enter Try.func95, Try.ntmps95
      go_wp2
      go_ret
      exact ⟨rfl, by go_grown⟩
set_option maxHeartbeats 1000000 in
theorem pmay_on (l r s : Bool) (f : Int) (w : World) :
    Calls Try.prog 95 #[.agg #[.bool true, .bool l, .bool r, .bool s, .int .i64 f]] w fun e w' => e = .returned (.bool (mayB true l r s f)) ∧ Below w.heap.size w w' := by
  by_cases h0 : f < 0
  · have e : mayB true l r s f = false := by simp [mayB]; omega
    rw [e]
    clear e
    go_enter Try.func95, Try.ntmps95
    go_wp2
    go_ret
    exact ⟨rfl, by go_grown⟩
  by_cases h1 : 64 ≤ f
  · have e : mayB true l r s f = false := by simp [mayB]; omega
    rw [e]
    clear e
    go_enter Try.func95, Try.ntmps95
    go_wp2
    go_ret
    exact ⟨rfl, by go_grown⟩
  · have h2 : 0 ≤ f := by omega
    have h3 : f < 64 := by omega
    have e : mayB true l r s f = (l == (r || s)) := by simp [mayB, h2, h3]
    rw [e]
    clear e h0 h1
    cases l <;> cases r <;> cases s
    all_goals
      go_enter Try.func95, Try.ntmps95
      go_wp2
      go_ret
      exact ⟨rfl, by go_grown⟩
theorem pmay_any (v l r s : Bool) (f : Int) (w : World) :
    Calls Try.prog 95 #[.agg #[.bool v, .bool l, .bool r, .bool s, .int .i64 f]] w fun e w' => e = .returned (.bool (mayB v l r s f)) ∧ Below w.heap.size w w' := by
  cases v
  · exact pmay_off l r s f w
  · exact pmay_on l r s f w
theorem flags_any (g : Nat) (w : World) :
    Calls Try.prog 92 #[.pointer (some ⟨g, 0, none⟩)] w fun e w' => e = .returned (.agg #[.pointer (some ⟨g, 0, none⟩), .pointer (some ⟨g, 1, none⟩), .pointer (some ⟨g, 2, none⟩), .pointer (some ⟨g, 3, none⟩)]) ∧ Below w.heap.size w w' := by
  go_enter Try.func92, Try.ntmps92
  go_wp2
  go_region
  go_wp2
  go_returns
  exact ⟨rfl, by go_grown⟩

/-! Encode -/
/-- An entry's word, if it may be. -/
def entV (v l r s : Bool) (f : Int) : Int := (if v then 1 else 0) + (if l then 2 else 0) + (if r then 4 else 0) + (if s then 8 else 0) + f * 256
/-- What Encode answers. -/
def encV (v l r s : Bool) (f : Int) : Int := if mayB v l r s f then entV v l r s f else 0
def encE (v l r s : Bool) (f : Int) : Int := if mayB v l r s f then 0 else 5
end Go.Proofs.Ytlfenakabedmfaa
