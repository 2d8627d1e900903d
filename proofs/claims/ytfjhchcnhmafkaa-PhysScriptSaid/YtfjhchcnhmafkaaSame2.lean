/- The walks of SameWords and OverWords. -/
import Derived.Test.YtfjhchcnhmafkaaIter
import Derived.ArgAppend
import Derived.BigQuiet
import Derived.Deep.AppendLies
import Derived.WalkSpells
namespace Go.Proofs.Ytfjhchcnhmafkaa
open Go.RowKit
theorem u64Info : (Try.prog.info? 40).map (fun i => (i.zero, i.size, i.bytes)) = some (some (.int .u64 0), 1, 8) := by kernel_rfl
set_option maxHeartbeats 1000000 in
theorem sameWords_nil (w : World) : Calls Try.prog 24 #[.slice none 0 0, .slice none 0 0] w fun e w' => e = .returned (.bool true) ∧ Below w.heap.size w w' := by
  go_enter Try.func24, Try.ntmps24
  go_wp2
  refine wp_loop_rounds 1 ?_
  rw [rounds_succ]
  go_wp2
  go_ret
  exact ⟨rfl, Below.refl _ _⟩
set_option maxHeartbeats 1000000 in
theorem sameWords_yes (a b n ca cb : Nat) (x : Nat → Int) (w : World) (hn : n ≤ 65536) (ha : ∀ j, j < n → w.cell? ⟨a, j, none⟩ = some (.int .u64 (x j))) (hb : ∀ j, j < n → w.cell? ⟨b, j, none⟩ = some (.int .u64 (x j))) :
    Calls Try.prog 24 #[.slice (some ⟨a, 0, none⟩) n ca, .slice (some ⟨b, 0, none⟩) n cb] w fun e w' => e = .returned (.bool true) ∧ Below w.heap.size w w' := by
  have HA := hide ha
  have HB := hide hb
  clear ha hb
  go_enter Try.func24, Try.ntmps24
  go_wp2
  go_loopw [5] (fun i wr => ∃ k nd : Nat, k ≤ n ∧ i = .int .i64 k ∧ wr = w.drewN nd) (fun i _ => n - (intOf i).toNat)
  case atStart => exact ⟨0, 0, Nat.zero_le _, rfl, rfl⟩
  case round =>
    obtain ⟨k, nd, hk, rfl, rfl⟩ := hrel
    by_cases hlt : k < n
    · have c1 := HA.out k hlt
      have c2 := HB.out k hlt
      go_wp2
      go_quiet (fail)
      go_wp2
      go_roundw
      case rel => exact ⟨k + 1, _, by omega, by simp, rfl⟩
      case measure => simp [intOf]; omega
    · go_wp2
      go_ret
      exact ⟨rfl, below_drewN (Below.refl _ _) _⟩
set_option maxHeartbeats 1000000 in
theorem overWords_nil (w : World) : Calls Try.prog 45 #[.slice none 0 0] w fun e w' => (∃ v, e = .returned v) ∧ Below w.heap.size w w' := by
  obtain ⟨i0, hi0, hz0, hz1, hz2⟩ := info_parts u64Info
  go_enter Try.func45, Try.ntmps45
  go_wp2
  refine wp_loop_rounds 1 ?_
  rw [rounds_succ]
  go_wp2_with (at_builtin; refine wpList_append_grows _ rfl (.tmp 12) (.tmp 13) 44 rfl 40 i0 (.int .u64 0) 1 8 Try.underlying44 hi0 hz0 hz1 hz2 rfl (by decide) none 0 0 [] rfl (fun _ => ⟨rfl, rfl⟩) rfl (fun b h => by cases h) ⟨w.heap.size, 0, none⟩ 1 1 [.int .u64 3735928559] rfl rfl (World.news_of_block (heap_alloc_new w _)) (by simp; rfl) (by decide) (by decide) (by decide) ?_; intro v' w1 hown hgrow)
  go_end0
  exact ⟨⟨_, rfl⟩, ((Below.refl _ w).alloc (Nat.le_refl _) _).grown hgrow (by simp) (fun k e => by cases e)⟩
/-- A row of words, whatever they are. -/
def wordsRow (cs : Array Value) : Prop := ∀ j, j < cs.size → ∃ x : Int, cs[j]? = some (.int .u64 x)
set_option maxHeartbeats 2000000 in
theorem overWords_any (b n c : Nat) (t : TypeId) (cs : Array Value) (w : World) (hb : Blk w b t cs) (hn : n ≤ c) (hc : c ≤ cs.size) (h6 : c ≤ 65536) (hw : ∀ u ∈ cs.toList, u.oneCell' = true) :
    Calls Try.prog 45 #[.slice (some ⟨b, 0, none⟩) n c] w fun e w' => (∃ v, e = .returned v) ∧ Mod (· = b) w w' := by
  obtain ⟨i0, hi0, hz0, hz1, hz2⟩ := info_parts u64Info
  have HB := hide hb
  have HW := hide hw
  clear hb hw
  go_enter Try.func45, Try.ntmps45
  go_wp2
  go_loopw [2] (fun i wr => ∃ k : Nat, k ≤ n ∧ i = .int .i64 k ∧ (∃ cs', Blk wr b t cs' ∧ cs'.size = cs.size ∧ ∀ u ∈ cs'.toList, u.oneCell' = true) ∧ Mod (· = b) w wr) (fun i _ => n - (intOf i).toNat)
  case atStart => exact ⟨0, Nat.zero_le _, rfl, ⟨cs, HB.out, rfl, HW.out⟩, Mod.refl _ _⟩
  case round =>
    obtain ⟨k, hk, rfl, ⟨cs', hb', hs', hw'⟩, hm⟩ := hrel
    have HB' := hide hb'
    have HW' := hide hw'
    have HS' := hide hs'
    by_cases hlt : k < n
    · have hk' : k < cs'.size := by omega
      have ck := hb'.cell k
      rw [Array.getElem?_eq_getElem hk'] at ck
      have fk := hb'.frozen k
      clear hb' hw' hs'
      go_wp2
      go_roundw
      case rel =>
        refine ⟨k + 1, by omega, by simp, ⟨_, HB'.out.set_ k (.int .u64 3735928559), by rw [Array.size_setIfInBounds]; exact HS'.out, ?_⟩, hm.setCell (p := ⟨b, k, none⟩) (.inl rfl) _⟩
        intro u hu
        rw [Array.toList_setIfInBounds] at hu
        rcases List.mem_or_eq_of_mem_set hu with h | rfl
        · exact HW'.out u h
        · rfl
      case measure => simp [intOf]; omega
    · obtain rfl : k = n := by omega
      clear hb' hw' hs'
      have hlen : (cs'.toList.take k).length = k * 1 := by simp [HS'.out]; omega
      have hbl : Blk (wr.alloc (.cells #[.int .u64 3735928559] 40)) b t cs' := HB'.out.alloc _
      go_wp2_with (at_builtin; refine wpList_append_arg _ rfl (.tmp 12) (.tmp 13) 44 rfl 40 i0 (.int .u64 0) 1 8 Try.underlying44 hi0 hz0 hz1 hz2 rfl (by decide) b 0 k c (cs'.toList.take k) rfl hlen (fun j u hu => ?c1) ⟨wr.heap.size, 0, none⟩ 1 1 [.int .u64 3735928559] rfl rfl (World.news_of_block (heap_alloc_new wr _)) (by simp; rfl) (fun hr j hj => ?c2) (by unfold maxLen; omega) (by omega) (fun hr => ?c3) (fun hg v' w1 hown hgrow => ?c4))
      case c1 =>
        rw [Nat.zero_add, hbl.cell j]
        have hj : j < k := by have := (List.getElem?_eq_some_iff.1 hu).1; simp at this; omega
        rw [List.getElem?_take_of_lt hj] at hu
        simpa using hu
      case c2 =>
        have hj0 : j = 0 := by simpa using hj
        subst hj0
        rw [hbl.cell, hbl.frozen]
        have : 0 + k * 1 + 0 < cs'.size := by have := HS'.out; omega
        rw [Array.getElem?_eq_getElem this]
        exact ⟨rfl, rfl⟩
      case c3 =>
        go_wp2
        go_end0
        exact ⟨⟨_, rfl⟩, (hm.alloc _).setCell (p := ⟨b, _, none⟩) (.inl rfl) _⟩
      case c4 =>
        go_wp2
        go_end0
        exact ⟨⟨_, rfl⟩, (hm.alloc _).grown hgrow (fun k e => by cases e)⟩
end Go.Proofs.Ytfjhchcnhmafkaa
