/- The walks of package phys. -/
import Derived.Test.YtlfenakabedmfaaBase
import Derived.WalkLawsBesides
import Derived.WalkSpells
import Derived.WalkMore
import Derived.Laws.MakeOwn
import Derived.Laws.Entries
namespace Go.Proofs.Ytlfenakabedmfaa
open Go.RowKit
/-- A memory: its struct's block g, its frames' block gf (n frames of eight words, room for cp), the words m. -/
structure MemAt (w : World) (g gf n cp : Nat) (m : Nat → Int) : Prop where
  hd : Blk w g 95 #[.slice (some ⟨gf, 0, none⟩) n cp]
  row : ∃ cs : Array Value, Blk w gf 152 cs ∧ cs.size = 8 * cp ∧ ∀ j, j < 8 * n → cs[j]? = some (.int .u64 (m j))
  pos : 1 ≤ n
  le : n ≤ 64
  ncp : n ≤ cp
  word : ∀ j, 0 ≤ m j ∧ m j < 18446744073709551616
section
variable {w w' : World} {g gf n cp : Nat} {m : Nat → Int}
theorem MemAt.cell (h : MemAt w g gf n cp m) (j : Nat) (hj : j < 8 * n) : w.cell? ⟨gf, j, none⟩ = some (.int .u64 (m j)) := by
  obtain ⟨cs, hb, _, hc⟩ := h.row
  rw [hb.cell j]
  exact hc j hj
theorem MemAt.frozen (h : MemAt w g gf n cp m) (j : Nat) : w.frozen? ⟨gf, j, none⟩ = false := by
  obtain ⟨cs, hb, _, _⟩ := h.row
  exact hb.frozen j
theorem MemAt.ltf (h : MemAt w g gf n cp m) : gf < w.heap.size := by
  obtain ⟨cs, hb, _, _⟩ := h.row
  exact hb.lt
theorem MemAt.ne (h : MemAt w g gf n cp m) : g ≠ gf := by
  obtain ⟨cs, hb, _, _⟩ := h.row
  exact h.hd.ne_ hb (by decide)
theorem MemAt.below {B : Nat} (h : MemAt w g gf n cp m) (hb : Below B w w') (h1 : g < B) (h2 : gf < B) : MemAt w' g gf n cp m := by
  obtain ⟨cs, hr, hs, hc⟩ := h.row
  exact ⟨h.hd.below hb h1, ⟨cs, hr.below hb h2, hs, hc⟩, h.pos, h.le, h.ncp, h.word⟩
theorem MemAt.set_ (h : MemAt w g gf n cp m) (j : Nat) (hj : j < 8 * n) (v : Int) (hv : 0 ≤ v ∧ v < 18446744073709551616) :
    MemAt (w.setCell ⟨gf, j, none⟩ (.int .u64 v)) g gf n cp (fun i => if i = j then v else m i) := by
  obtain ⟨cs, hr, hs, hc⟩ := h.row
  refine ⟨h.hd.far (p := ⟨gf, j, none⟩) h.ne _, ⟨_, hr.set_ j _, by simpa using hs, fun i hi => ?_⟩, h.pos, h.le, h.ncp, fun i => ?_⟩
  · have hsz : 8 * n ≤ cs.size := by rw [hs]; have := h.ncp; omega
    by_cases e : i = j
    · subst e
      rw [if_pos rfl, Array.getElem?_setIfInBounds_self, if_pos (by omega)]
    · rw [if_neg e, Array.getElem?_setIfInBounds_ne (fun x => e x.symm)]
      exact hc i hi
  · show 0 ≤ (if i = j then v else m i) ∧ (if i = j then v else m i) < 18446744073709551616
    split
    · exact hv
    · exact h.word i
end
/-! at: the word's place. -/
set_option maxHeartbeats 1000000 in
theorem at_nil (a : Int) (w : World) : Calls Try.prog 45 #[.pointer none, .int .u64 a] w fun e w' => e = .returned (.tuple #[.pointer none, .int .i64 1]) ∧ w = w' := by
  go_enter Try.func45, Try.ntmps45
  go_wp2
  go_ret2
  exact ⟨rfl, rfl⟩
set_option maxHeartbeats 1000000 in
theorem at_odd (g : Nat) (a : Int) (w : World) (h0 : 0 ≤ a) (h : a % 8 ≠ 0) : Calls Try.prog 45 #[.pointer (some ⟨g, 0, none⟩), .int .u64 a] w fun e w' => e = .returned (.tuple #[.pointer none, .int .i64 4]) ∧ w = w' := by
  have ht : Int.tmod a 8 = a % 8 := Int.tmod_eq_emod_of_nonneg h0
  go_enter Try.func45, Try.ntmps45
  go_wp2
  go_ret2
  exact ⟨rfl, rfl⟩
set_option maxHeartbeats 1000000 in
theorem at_far (g gf n cp : Nat) (m : Nat → Int) (a : Int) (w : World) (hM : MemAt w g gf n cp m) (h0 : 0 ≤ a) (h : a % 8 = 0) (hf : 64 * (n : Int) ≤ a) :
    Calls Try.prog 45 #[.pointer (some ⟨g, 0, none⟩), .int .u64 a] w fun e w' => e = .returned (.tuple #[.pointer none, .int .i64 3]) ∧ w = w' := by
  have c0 := hM.hd.cell 0
  have hn := hM.le
  have ht : Int.tmod a 8 = a % 8 := Int.tmod_eq_emod_of_nonneg h0
  have HM := hide hM
  clear hM
  go_enter Try.func45, Try.ntmps45
  go_wp2
  go_ret2
  exact ⟨rfl, rfl⟩
set_option maxHeartbeats 1000000 in
theorem at_in (g gf n cp : Nat) (m : Nat → Int) (j : Nat) (w : World) (hM : MemAt w g gf n cp m) (hj : j < 8 * n) :
    Calls Try.prog 45 #[.pointer (some ⟨g, 0, none⟩), .int .u64 (8 * (j : Int))] w fun e w' => e = .returned (.tuple #[.pointer (some ⟨gf, j, none⟩), .int .i64 0]) ∧ w = w' := by
  have c0 := hM.hd.cell 0
  have hn := hM.le
  have HM := hide hM
  clear hM
  go_enter Try.func45, Try.ntmps45
  go_wp2
  go_ret2
  have ho : 8 * j / 64 * 8 + 8 * j % 64 / 8 = j := by omega
  exact ⟨congrArg (fun o => Ending.returned (.tuple #[.pointer (some ⟨gf, o, none⟩), .int .i64 0])) ho, rfl⟩
/-- What an address is: 0 good, else the error's number. -/
def adr (n : Nat) (a : Int) : Int := if a % 8 ≠ 0 then 4 else if 64 * (n : Int) ≤ a then 3 else 0
def loadV (n : Nat) (m : Nat → Int) (a : Int) : Int := if adr n a = 0 then m (a / 8).toNat else 0
theorem adr_bad {n : Nat} {a : Int} (h : adr n a ≠ 0) : (a % 8 ≠ 0 ∧ adr n a = 4) ∨ (a % 8 = 0 ∧ 64 * (n : Int) ≤ a ∧ adr n a = 3) := by
  unfold adr at *
  split
  · exact .inl ⟨by assumption, rfl⟩
  · split
    · exact .inr ⟨by omega, by assumption, rfl⟩
    · simp_all
theorem adr_good {n : Nat} {a : Int} (h0 : 0 ≤ a) (h : adr n a = 0) : ∃ j : Nat, a = 8 * (j : Int) ∧ j < 8 * n := by
  unfold adr at h
  split at h
  · cases h
  · split at h
    · cases h
    · exact ⟨(a / 8).toNat, by omega, by omega⟩
theorem at_any (g gf n cp : Nat) (m : Nat → Int) (a : Int) (w : World) (hM : MemAt w g gf n cp m) (h0 : 0 ≤ a) (hb : adr n a ≠ 0) :
    Calls Try.prog 45 #[.pointer (some ⟨g, 0, none⟩), .int .u64 a] w fun e w' => e = .returned (.tuple #[.pointer none, .int .i64 (adr n a)]) ∧ w = w' := by
  rcases adr_bad hb with ⟨h, e⟩ | ⟨h, hf, e⟩
  · rw [e]; exact at_odd g a w h0 h
  · rw [e]; exact at_far g gf n cp m a w hM h0 h hf
theorem adr_of {n j : Nat} (h : j < 8 * n) : adr n (8 * (j : Int)) = 0 := by
  unfold adr
  rw [if_neg (by omega), if_neg (by omega)]
/-! Load, Store, Frames. -/
set_option maxHeartbeats 1000000 in
theorem load_nil (a : Int) (w : World) : Calls Try.prog 43 #[.pointer none, .int .u64 a] w fun e w' => e = .returned (.tuple #[.int .u64 0, .int .i64 1]) ∧ w = w' := by
  go_enter Try.func43, Try.ntmps43
  go_wp2_with fail
  refine (at_nil _ _).mono ?_
  rintro e w' ⟨rfl, rfl⟩
  go_wp2_with fail
  go_ret2
  exact ⟨rfl, rfl⟩
set_option maxHeartbeats 1000000 in
theorem load_bad (g gf n cp : Nat) (m : Nat → Int) (a : Int) (w : World) (hM : MemAt w g gf n cp m) (h0 : 0 ≤ a) (hb : adr n a ≠ 0) :
    Calls Try.prog 43 #[.pointer (some ⟨g, 0, none⟩), .int .u64 a] w fun e w' => e = .returned (.tuple #[.int .u64 0, .int .i64 (adr n a)]) ∧ w = w' := by
  have HM := hide hM
  clear hM
  go_enter Try.func43, Try.ntmps43
  go_wp2_with fail
  refine (at_any _ _ _ _ _ _ _ HM.out h0 hb).mono ?_
  rintro e w' ⟨rfl, rfl⟩
  go_wp2_with fail
  go_ret2
  exact ⟨rfl, rfl⟩
set_option maxHeartbeats 1000000 in
theorem load_in (g gf n cp : Nat) (m : Nat → Int) (j : Nat) (w : World) (hM : MemAt w g gf n cp m) (hj : j < 8 * n) :
    Calls Try.prog 43 #[.pointer (some ⟨g, 0, none⟩), .int .u64 (8 * (j : Int))] w fun e w' => e = .returned (.tuple #[.int .u64 (m j), .int .i64 0]) ∧ w = w' := by
  have c0 := hM.cell j hj
  have HM := hide hM
  clear hM
  go_enter Try.func43, Try.ntmps43
  go_wp2_with fail
  refine (at_in _ _ _ _ _ _ _ HM.out hj).mono ?_
  rintro e w' ⟨rfl, rfl⟩
  go_wp2_with fail
  go_ret2
  exact ⟨rfl, rfl⟩
theorem load_any (g gf n cp : Nat) (m : Nat → Int) (a : Int) (w : World) (hM : MemAt w g gf n cp m) (h0 : 0 ≤ a) :
    Calls Try.prog 43 #[.pointer (some ⟨g, 0, none⟩), .int .u64 a] w fun e w' => e = .returned (.tuple #[.int .u64 (loadV n m a), .int .i64 (adr n a)]) ∧ w = w' := by
  unfold loadV
  by_cases hb : adr n a = 0
  · obtain ⟨j, rfl, hj⟩ := adr_good h0 hb
    rw [if_pos hb, hb]
    have e : (8 * (j : Int) / 8).toNat = j := by omega
    rw [e]
    exact load_in g gf n cp m j w hM hj
  · rw [if_neg hb]
    exact load_bad g gf n cp m a w hM h0 hb
set_option maxHeartbeats 1000000 in
theorem store_nil (a v : Int) (w : World) : Calls Try.prog 16 #[.pointer none, .int .u64 a, .int .u64 v] w fun e w' => e = .returned (.int .i64 1) ∧ w = w' := by
  go_enter Try.func16, Try.ntmps16
  go_wp2_with fail
  refine (at_nil _ _).mono ?_
  rintro e w' ⟨rfl, rfl⟩
  go_wp2_with fail
  go_ret
  exact ⟨rfl, rfl⟩
set_option maxHeartbeats 1000000 in
theorem store_bad (g gf n cp : Nat) (m : Nat → Int) (a v : Int) (w : World) (hM : MemAt w g gf n cp m) (h0 : 0 ≤ a) (hb : adr n a ≠ 0) :
    Calls Try.prog 16 #[.pointer (some ⟨g, 0, none⟩), .int .u64 a, .int .u64 v] w fun e w' => e = .returned (.int .i64 (adr n a)) ∧ w = w' := by
  have HM := hide hM
  clear hM
  go_enter Try.func16, Try.ntmps16
  go_wp2_with fail
  refine (at_any _ _ _ _ _ _ _ HM.out h0 hb).mono ?_
  rintro e w' ⟨rfl, rfl⟩
  go_wp2_with fail
  go_ret
  exact ⟨rfl, rfl⟩
set_option maxHeartbeats 1000000 in
theorem store_in (g gf n cp : Nat) (m : Nat → Int) (j : Nat) (v : Int) (w : World) (hM : MemAt w g gf n cp m) (hj : j < 8 * n) :
    Calls Try.prog 16 #[.pointer (some ⟨g, 0, none⟩), .int .u64 (8 * (j : Int)), .int .u64 v] w fun e w' => e = .returned (.int .i64 0) ∧ w' = w.setCell ⟨gf, j, none⟩ (.int .u64 v) := by
  have c0 := hM.cell j hj
  have f0 := hM.frozen j
  have HM := hide hM
  clear hM
  go_enter Try.func16, Try.ntmps16
  go_wp2_with fail
  refine (at_in _ _ _ _ _ _ _ HM.out hj).mono ?_
  rintro e w' ⟨rfl, rfl⟩
  go_wp2_with fail
  go_ret
  exact ⟨rfl, rfl⟩
set_option maxHeartbeats 1000000 in
theorem frames_nil (w : World) : Calls Try.prog 67 #[.pointer none] w fun e w' => e = .returned (.int .i64 0) ∧ w = w' := by
  go_enter Try.func67, Try.ntmps67
  go_wp2
  go_ret
  exact ⟨rfl, rfl⟩
set_option maxHeartbeats 1000000 in
theorem pframes_any (g gf n cp : Nat) (m : Nat → Int) (w : World) (hM : MemAt w g gf n cp m) : Calls Try.prog 67 #[.pointer (some ⟨g, 0, none⟩)] w fun e w' => e = .returned (.int .i64 n) ∧ w = w' := by
  have c0 := hM.hd.cell 0
  have HM := hide hM
  clear hM
  go_enter Try.func67, Try.ntmps67
  go_wp2
  go_ret
  exact ⟨rfl, rfl⟩
set_option maxHeartbeats 1000000 in
theorem words_bad (g gf n cp : Nat) (m : Nat → Int) (f : Int) (w : World) (hM : MemAt w g gf n cp m) (hb : f < 0 ∨ (n : Int) ≤ f) : Calls Try.prog 69 #[.pointer (some ⟨g, 0, none⟩), .int .i64 f] w fun e w' => e = .returned (.tuple #[.slice none 0 0, .int .i64 3]) ∧ w = w' := by
  have c0 := hM.hd.cell 0
  have hn := hM.le
  have HM := hide hM
  clear hM
  rcases hb with hb | hb
  · go_enter Try.func69, Try.ntmps69
    go_wp2
    go_ret2
    exact ⟨rfl, rfl⟩
  · go_enter Try.func69, Try.ntmps69
    go_wp2
    go_ret2
    exact ⟨rfl, rfl⟩
/-- A frame's eight words, as a row. -/
def frameA (m : Nat → Int) (f : Nat) : Array Value := #[.int .u64 (m (f * 8)), .int .u64 (m (f * 8 + 1)), .int .u64 (m (f * 8 + 2)), .int .u64 (m (f * 8 + 3)), .int .u64 (m (f * 8 + 4)), .int .u64 (m (f * 8 + 5)), .int .u64 (m (f * 8 + 6)), .int .u64 (m (f * 8 + 7))]
set_option maxHeartbeats 1000000 in
theorem words_in (g gf n cp : Nat) (m : Nat → Int) (f : Nat) (w : World) (hM : MemAt w g gf n cp m) (hf : f < n) :
    Calls Try.prog 69 #[.pointer (some ⟨g, 0, none⟩), .int .i64 f] w fun e w' => e = .returned (.tuple #[.slice (some ⟨w.heap.size, 0, none⟩) 8 8, .int .i64 0]) ∧ w' = w.alloc (.cells (frameA m f) 152) := by
  have c0 := hM.hd.cell 0
  have hn := hM.le
  have k0 := hM.cell (f * 8) (by omega)
  have k1 := hM.cell (f * 8 + 1) (by omega)
  have k2 := hM.cell (f * 8 + 2) (by omega)
  have k3 := hM.cell (f * 8 + 3) (by omega)
  have k4 := hM.cell (f * 8 + 4) (by omega)
  have k5 := hM.cell (f * 8 + 5) (by omega)
  have k6 := hM.cell (f * 8 + 6) (by omega)
  have k7 := hM.cell (f * 8 + 7) (by omega)
  have HM := hide hM
  clear hM
  go_enter Try.func69, Try.ntmps69
  go_wp2_with fail
  go_ret2
  exact ⟨rfl, rfl⟩
set_option maxHeartbeats 1000000 in
theorem words_nil (f : Int) (w : World) : Calls Try.prog 69 #[.pointer none, .int .i64 f] w fun e w' => e = .returned (.tuple #[.slice none 0 0, .int .i64 1]) ∧ w = w' := by
  go_enter Try.func69, Try.ntmps69
  go_wp2
  go_ret2
  exact ⟨rfl, rfl⟩
set_option maxHeartbeats 1000000 in
theorem copy_nil (w : World) : Calls Try.prog 42 #[.pointer none] w fun e w' => e = .returned (.pointer none) ∧ w = w' := by
  go_enter Try.func42, Try.ntmps42
  go_wp2
  go_ret
  exact ⟨rfl, rfl⟩
set_option maxHeartbeats 1000000 in
theorem new_bad (n : Int) (w : World) (h : n < 1 ∨ 64 < n) : Calls Try.prog 14 #[.int .i64 n] w fun e w' => e = .returned (.tuple #[.pointer none, .int .i64 3]) ∧ w = w' := by
  rcases h with h | h
  · go_enter Try.func14, Try.ntmps14
    go_wp2
    go_ret2
    exact ⟨rfl, rfl⟩
  · go_enter Try.func14, Try.ntmps14
    go_wp2
    go_ret2
    exact ⟨rfl, rfl⟩
def noughts : Array Value := #[.int .u64 0, .int .u64 0, .int .u64 0, .int .u64 0, .int .u64 0, .int .u64 0, .int .u64 0, .int .u64 0]
/-- n frames of noughts. -/
def zerosA (n : Nat) : Array Value := madeCells noughts (n * 8)
theorem frameInfo : ((Try.prog.info? 152).map fun i => (i.size, i.bytes)) = some (8, 64) := by kernel_rfl
theorem frameZero : ((Try.prog.info? 152).bind fun i => i.zero) = some (.agg noughts) := by kernel_rfl
theorem made_frames (n : Nat) (hn : n ≤ 64) (w : World) : (Instr.makeSlice 93 (.int .i64 n) (.int .i64 n)).run Try.prog w = .ok (.slice (some ⟨w.heap.size, 0, none⟩) n n) (w.alloc (.cells (zerosA n) 152)) := by
  have h1 := frameInfo
  have h2 := frameZero
  cases hi : Try.prog.info? 152 with
  | none => rw [hi] at h1; cases h1
  | some i =>
    rw [hi] at h1 h2
    simp only [Option.map_some, Option.some.injEq, Prod.mk.injEq] at h1
    have hr := run_make (P := Try.prog) w 93 152 i (.agg noughts) Try.underlying93 hi h2 .i64 .i64 n n (by omega) (by omega) (by rw [h1.2]; omega) (by omega)
    simp only [Int.toNat_natCast, h1.1] at hr
    exact hr
theorem zerosA_get (n j : Nat) (hj : j < 8 * n) : (zerosA n)[j]? = some (.int .u64 0) := by
  unfold zerosA madeCells
  have h8 : noughts.size = 8 := rfl
  rw [Array.getElem?_map, Array.getElem?_range, if_pos (by omega), h8]
  have hl : j % 8 < 8 := Nat.mod_lt _ (by omega)
  rw [Option.map_some]
  generalize j % 8 = k at hl
  match k, hl with
  | 0, _ => rfl
  | 1, _ => rfl
  | 2, _ => rfl
  | 3, _ => rfl
  | 4, _ => rfl
  | 5, _ => rfl
  | 6, _ => rfl
  | 7, _ => rfl
set_option maxHeartbeats 1000000 in
theorem new_in (n : Nat) (w : World) (h1 : 1 ≤ n) (h2 : n ≤ 64) : Calls Try.prog 14 #[.int .i64 n] w fun e w' =>
    e = .returned (.tuple #[.pointer (some ⟨w.heap.size + 1, 0, none⟩), .int .i64 0]) ∧ MemAt w' (w.heap.size + 1) w.heap.size n n (fun _ => 0) ∧ Below w.heap.size w w' := by
  have hmk := made_frames n h2
  go_enter Try.func14, Try.ntmps14
  go_wp2_with fail
  have hM : MemAt ((w.alloc (.cells (zerosA n) 152)).alloc (.cells #[.slice (some ⟨w.heap.size, 0, none⟩) n n] 95)) (w.heap.size + 1) w.heap.size n n (fun _ => 0) := by
    have hb := Blk.new (w.alloc (.cells (zerosA n) 152)) 95 #[.slice (some ⟨w.heap.size, 0, none⟩) n n]
    have hs : (w.alloc (.cells (zerosA n) 152)).heap.size = w.heap.size + 1 := by simp
    rw [hs] at hb
    exact ⟨hb, ⟨zerosA n, (Blk.new w _ _).alloc _, by unfold zerosA; rw [size_madeCells]; omega, fun j hj => zerosA_get n j hj⟩, h1, h2, Nat.le_refl _, fun _ => ⟨by decide, by decide⟩⟩
  go_ret2
  exact ⟨rfl, hM, ((Below.refl _ _).alloc (Nat.le_refl _) _).alloc (by simp) _⟩
theorem new_any (n : Int) (w : World) : Calls Try.prog 14 #[.int .i64 n] w fun e w' =>
    (n < 1 ∨ 64 < n) ∧ e = .returned (.tuple #[.pointer none, .int .i64 3]) ∧ w = w' ∨
    (1 ≤ n ∧ n ≤ 64) ∧ e = .returned (.tuple #[.pointer (some ⟨w.heap.size + 1, 0, none⟩), .int .i64 0]) ∧ MemAt w' (w.heap.size + 1) w.heap.size n.toNat n.toNat (fun _ => 0) ∧ Below w.heap.size w w' := by
  by_cases h : n < 1 ∨ 64 < n
  · exact (new_bad n w h).mono fun e w' hp => .inl ⟨h, hp⟩
  · obtain ⟨k, rfl⟩ : ∃ k : Nat, n = k := ⟨n.toNat, by omega⟩
    exact (new_in k w (by omega) (by omega)).mono fun e w' hp => .inr ⟨by omega, by simpa using hp⟩
end Go.Proofs.Ytlfenakabedmfaa
