/- The walk of a cache's Fill. -/
import Derived.Test.YtjnnimdgmcpjoaaTlb5
import Derived.LaidEqlPtr
namespace Go.Proofs.Ytjnnimdgmcpjoaa
open Go.RowKit Go.Shelf
/-- May a translation be filled in? -/
def mayFill (x : Tr) : Prop := 1 ≤ x.sp ∧ 0 ≤ x.pg ∧ x.pg < 512 ∧ 0 ≤ x.fr ∧ x.fr < 64 ∧ (x.rd = true ∨ x.wr = true)
set_option maxHeartbeats 1000000 in
theorem fill_nil (x : Tr) (w : World) : Calls Try.prog 52 #[.pointer none, .agg x.row] w fun e w' => e = .returned (.int .i64 1) ∧ Below w.heap.size w w' := by
  obtain ⟨a, b, c, d, e⟩ := x
  unfold Tr.row
  dsimp only
  go_enter Try.func52, Try.ntmps52
  go_wp2
  go_step3
  go_wp2
  rw [Exit.noGoto_ret]
  go_ret
  exact ⟨rfl, (Below.refl _ _).alloc (Nat.le_refl _) _⟩

set_option maxHeartbeats 4000000 in
theorem fill_bad (g : Nat) (x : Tr) (w : World) (h : ¬ mayFill x) : Calls Try.prog 52 #[.pointer (some ⟨g, 0, none⟩), .agg x.row] w fun e w' => e = .returned (.int .i64 2) ∧ Below w.heap.size w w' := by
  obtain ⟨a, b, c, d, e⟩ := x
  unfold mayFill at h
  unfold Tr.row
  dsimp only at h ⊢
  by_cases h1 : a < 1
  · clear h
    go_enter Try.func52, Try.ntmps52
    go_wp2
    go_step3
    go_wp2
    rw [Exit.noGoto_ret]
    go_ret
    exact ⟨rfl, (Below.refl _ _).alloc (Nat.le_refl _) _⟩
  by_cases h2 : b < 0
  · clear h
    go_enter Try.func52, Try.ntmps52
    go_wp2
    go_step3
    go_wp2
    rw [Exit.noGoto_ret]
    go_ret
    exact ⟨rfl, (Below.refl _ _).alloc (Nat.le_refl _) _⟩
  by_cases h3 : 512 ≤ b
  · clear h
    go_enter Try.func52, Try.ntmps52
    go_wp2
    go_step3
    go_wp2
    rw [Exit.noGoto_ret]
    go_ret
    exact ⟨rfl, (Below.refl _ _).alloc (Nat.le_refl _) _⟩
  by_cases h4 : c < 0
  · clear h
    go_enter Try.func52, Try.ntmps52
    go_wp2
    go_step3
    go_wp2
    rw [Exit.noGoto_ret]
    go_ret
    exact ⟨rfl, (Below.refl _ _).alloc (Nat.le_refl _) _⟩
  by_cases h5 : 64 ≤ c
  · clear h
    go_enter Try.func52, Try.ntmps52
    go_wp2
    go_step3
    go_wp2
    rw [Exit.noGoto_ret]
    go_ret
    exact ⟨rfl, (Below.refl _ _).alloc (Nat.le_refl _) _⟩
  have hd : d = false := by
    cases d with
    | false => rfl
    | true => exact absurd ⟨by omega, by omega, by omega, by omega, by omega, .inl rfl⟩ h
  have he : e = false := by
    cases e with
    | false => rfl
    | true => exact absurd ⟨by omega, by omega, by omega, by omega, by omega, .inr rfl⟩ h
  subst hd he
  clear h
  go_enter Try.func52, Try.ntmps52
  go_wp2
  go_step3
  go_wp2
  rw [Exit.noGoto_ret]
  go_ret
  exact ⟨rfl, (Below.refl _ _).alloc (Nat.le_refl _) _⟩
end Go.Proofs.Ytjnnimdgmcpjoaa
