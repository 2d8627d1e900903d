/- The walks of SameWords and OverWords. -/
import Derived.Test.YtlfenakabedmfaaIter
import Derived.ArgAppend
import Derived.BigQuiet
import Derived.Deep.AppendLies
import Derived.WalkSpells
namespace Go.Proofs.Ytlfenakabedmfaa
open Go.RowKit
theorem u64Info : (Try.prog.info? 32).map (fun i => (i.zero, i.size, i.bytes)) = some (some (.int .u64 0), 1, 8) := by kernel_rfl
set_option maxHeartbeats 1000000 in
theorem sameWords_nil (w : World) : Calls Try.prog 71 #[.slice none 0 0, .slice none 0 0] w fun e w' => e = .returned (.bool true) ∧ Below w.heap.size w w' := by
  go_enter Try.func71, Try.ntmps71
  go_wp2
  refine wp_loop_rounds 1 ?_
  rw [rounds_succ]
  go_wp2
  go_ret
  exact ⟨rfl, Below.refl _ _⟩
set_option maxHeartbeats 1000000 in
theorem sameWords_yes (a b n ca cb : Nat) (x : Nat → Int) (w : World) (hn : n ≤ 65536) (ha : ∀ j, j < n → w.cell? ⟨a, j, none⟩ = some (.int .u64 (x j))) (hb : ∀ j, j < n → w.cell? ⟨b, j, none⟩ = some (.int .u64 (x j))) :
    Calls Try.prog 71 #[.slice (some ⟨a, 0, none⟩) n ca, .slice (some ⟨b, 0, none⟩) n cb] w fun e w' => e = .returned (.bool true) ∧ Below w.heap.size w w' := by
  have HA := hide ha
  have HB := hide hb
  clear ha hb
  go_enter Try.func71, Try.ntmps71
  go_wp2
  go_loopw [5] (fun i wr => ∃ k nd : Nat, k ≤ n ∧ i = .int .i64 k ∧ wr = w.drewN nd) (fun i _ => n - (intOf i).toNat)
  case atStart => exact ⟨0, 0, Nat.zero_le _, rfl, rfl⟩
  case round =>
    obtain ⟨k, nd, hk, rfl, rfl⟩ := hrel
    by_cases hlt : k < n
    · have c1 := HA.out k hlt
      have c2 := HB.out k hlt
      go_wp2
      go_quiet (fail)
      go_wp2
      go_roundw
      case rel => exact ⟨k + 1, _, by omega, by simp, rfl⟩
      case measure => simp [intOf]; omega
    · go_wp2
      go_ret
      exact ⟨rfl, below_drewN (Below.refl _ _) _⟩
/-- A row of words, whatever they are. -/
def wordsRow (cs : Array Value) : Prop := ∀ j, j < cs.size → ∃ x : Int, cs[j]? = some (.int .u64 x)
end Go.Proofs.Ytlfenakabedmfaa
