/- The walks of chapter 2's own answer: all words in one list. -/
import Derived.Test.YtlfenakabedmfaaPhys2
import Derived.Test.YtlfenakabedmfaaSame2
namespace Go.Proofs.Ytlfenakabedmfaa
open Go.RowKit
/-- The answer's memory: its struct's block g, its row's block gf, n frames, the words m. -/
structure RefAt (w : World) (g gf n cp : Nat) (m : Nat → Int) : Prop where
  hd : Blk w g 133 #[.slice (some ⟨gf, 0, none⟩) (8 * n) cp]
  row : ∃ cs : Array Value, Blk w gf 32 cs ∧ 8 * n ≤ cs.size ∧ ∀ j, j < 8 * n → cs[j]? = some (.int .u64 (m j))
  pos : 1 ≤ n
  le : n ≤ 64
  ncp : 8 * n ≤ cp
  word : ∀ j, 0 ≤ m j ∧ m j < 18446744073709551616
section
variable {w w' : World} {g gf n cp : Nat} {m : Nat → Int}
theorem RefAt.cell (h : RefAt w g gf n cp m) (j : Nat) (hj : j < 8 * n) : w.cell? ⟨gf, j, none⟩ = some (.int .u64 (m j)) := by
  obtain ⟨cs, hb, _, hc⟩ := h.row
  rw [hb.cell j]
  exact hc j hj
theorem RefAt.frozen (h : RefAt w g gf n cp m) (j : Nat) : w.frozen? ⟨gf, j, none⟩ = false := by
  obtain ⟨cs, hb, _, _⟩ := h.row
  exact hb.frozen j
theorem RefAt.ltf (h : RefAt w g gf n cp m) : gf < w.heap.size := by
  obtain ⟨cs, hb, _, _⟩ := h.row
  exact hb.lt
theorem RefAt.ne (h : RefAt w g gf n cp m) : g ≠ gf := by
  obtain ⟨cs, hb, _, _⟩ := h.row
  exact h.hd.ne_ hb (by decide)
theorem RefAt.same (h : RefAt w g gf n cp m) (h1 : w'.heap[g]? = w.heap[g]?) (h2 : w'.heap[gf]? = w.heap[gf]?) : RefAt w' g gf n cp m := by
  obtain ⟨cs, hr, hs, hc⟩ := h.row
  exact ⟨h.hd.same h1, ⟨cs, hr.same h2, hs, hc⟩, h.pos, h.le, h.ncp, h.word⟩
theorem RefAt.below {B : Nat} (h : RefAt w g gf n cp m) (hb : Below B w w') (h1 : g < B) (h2 : gf < B) : RefAt w' g gf n cp m := h.same (hb.block g h1) (hb.block gf h2)
theorem RefAt.set_ (h : RefAt w g gf n cp m) (j : Nat) (hj : j < 8 * n) (v : Int) (hv : 0 ≤ v ∧ v < 18446744073709551616) :
    RefAt (w.setCell ⟨gf, j, none⟩ (.int .u64 v)) g gf n cp (fun i => if i = j then v else m i) := by
  obtain ⟨cs, hr, hs, hc⟩ := h.row
  refine ⟨h.hd.far (p := ⟨gf, j, none⟩) h.ne _, ⟨_, hr.set_ j _, by simpa using hs, fun i hi => ?_⟩, h.pos, h.le, h.ncp, fun i => ?_⟩
  · by_cases e : i = j
    · subst e
      rw [if_pos rfl, Array.getElem?_setIfInBounds_self, if_pos (by omega)]
    · rw [if_neg e, Array.getElem?_setIfInBounds_ne (fun x => e x.symm)]
      exact hc i hi
  · show 0 ≤ (if i = j then v else m i) ∧ (if i = j then v else m i) < 18446744073709551616
    split
    · exact hv
    · exact h.word i
end
set_option maxHeartbeats 1000000 in
theorem rnew_bad (n : Int) (w : World) (h : n < 1 ∨ 64 < n) : Calls Try.prog 31 #[.int .i64 n] w fun e w' => e = .returned (.tuple #[.pointer none, .int .i64 3]) ∧ w = w' := by
  rcases h with h | h
  · go_enter Try.func31, Try.ntmps31
    go_wp2
    go_ret2
    exact ⟨rfl, rfl⟩
  · go_enter Try.func31, Try.ntmps31
    go_wp2
    go_ret2
    exact ⟨rfl, rfl⟩
def rzerosA (n : Nat) : Array Value := madeCells #[.int .u64 0] n
theorem rzerosA_get (n j : Nat) (hj : j < n) : (rzerosA n)[j]? = some (.int .u64 0) := by
  unfold rzerosA madeCells
  rw [Array.getElem?_map, Array.getElem?_range, if_pos (by omega), Option.map_some]
  have h1 : (#[Value.int .u64 0] : Array Value).size = 1 := rfl
  rw [h1, Nat.mod_one]
  rfl
theorem rmade (n : Nat) (hn : n ≤ 512) (w : World) : (Instr.makeSlice 67 (.int .i64 n) (.int .i64 n)).run Try.prog w = .ok (.slice (some ⟨w.heap.size, 0, none⟩) n n) (w.alloc (.cells (rzerosA n) 32)) := by
  obtain ⟨i0, hi0, hz0, hz1, hz2⟩ := info_parts u64Info
  have hr := run_make (P := Try.prog) w 67 32 i0 (.int .u64 0) Try.underlying67 hi0 hz0 .i64 .i64 n n (by omega) (by omega) (by rw [hz2]; omega) (by omega)
  simp only [Int.toNat_natCast, hz1, Nat.mul_one] at hr
  exact hr
set_option maxHeartbeats 1000000 in
theorem rnew_in (n : Nat) (w : World) (h1 : 1 ≤ n) (h2 : n ≤ 64) : Calls Try.prog 31 #[.int .i64 n] w fun e w' =>
    e = .returned (.tuple #[.pointer (some ⟨w.heap.size + 1, 0, none⟩), .int .i64 0]) ∧ RefAt w' (w.heap.size + 1) w.heap.size n (8 * n) (fun _ => 0) ∧ Below w.heap.size w w' := by
  have hmk := rmade (8 * n) (by omega)
  simp only [Int.natCast_mul, Int.cast_ofNat_Int] at hmk
  go_enter Try.func31, Try.ntmps31
  go_wp2_with fail
  have hM : RefAt ((w.alloc (.cells (rzerosA (8 * n)) 32)).alloc (.cells #[.slice (some ⟨w.heap.size, 0, none⟩) (8 * n) (8 * n)] 133)) (w.heap.size + 1) w.heap.size n (8 * n) (fun _ => 0) := by
    have hb := Blk.new (w.alloc (.cells (rzerosA (8 * n)) 32)) 133 #[.slice (some ⟨w.heap.size, 0, none⟩) (8 * n) (8 * n)]
    simp only [World.size_alloc] at hb
    exact ⟨hb, ⟨rzerosA (8 * n), (Blk.new w _ _).alloc _, by unfold rzerosA; rw [size_madeCells]; omega, fun j hj => rzerosA_get _ j hj⟩, h1, h2, Nat.le_refl _, fun _ => ⟨by decide, by decide⟩⟩
  go_ret2
  exact ⟨rfl, hM, ((Below.refl _ _).alloc (Nat.le_refl _) _).alloc (by simp) _⟩
set_option maxHeartbeats 1000000 in
theorem rframes_any (g gf n cp : Nat) (m : Nat → Int) (w : World) (hM : RefAt w g gf n cp m) : Calls Try.prog 68 #[.pointer (some ⟨g, 0, none⟩)] w fun e w' => e = .returned (.int .i64 n) ∧ w = w' := by
  have c0 := hM.hd.cell 0
  have hn := hM.le
  have HM := hide hM
  clear hM
  go_enter Try.func68, Try.ntmps68
  go_wp2
  go_ret
  exact ⟨by simp, rfl⟩
set_option maxHeartbeats 1000000 in
theorem rwrong_any (g gf n cp : Nat) (m : Nat → Int) (a : Int) (w : World) (hM : RefAt w g gf n cp m) (h0 : 0 ≤ a) (h1 : a < 18446744073709551616) :
    Calls Try.prog 57 #[.pointer (some ⟨g, 0, none⟩), .int .u64 a] w fun e w' => e = .returned (.int .i64 (adr n a)) ∧ w = w' := by
  have c0 := hM.hd.cell 0
  have hn := hM.le
  have HM := hide hM
  clear hM
  have ht : Int.tmod a 8 = a % 8 := Int.tmod_eq_emod_of_nonneg h0
  by_cases h : a % 8 = 0
  · by_cases hf : 64 * (n : Int) ≤ a
    · have e : adr n a = 3 := by unfold adr; rw [if_neg (by omega), if_pos hf]
      rw [e]
      have hq : (8 * (n : Int)) ≤ a / 8 := by omega
      clear e
      go_enter Try.func57, Try.ntmps57
      go_wp2
      go_ret
      exact ⟨rfl, rfl⟩
    · have e : adr n a = 0 := by unfold adr; rw [if_neg (by omega), if_neg hf]
      rw [e]
      have hq : ¬ (8 * (n : Int)) ≤ a / 8 := by omega
      clear e
      go_enter Try.func57, Try.ntmps57
      go_wp2
      go_ret
      exact ⟨rfl, rfl⟩
  · have e : adr n a = 4 := by unfold adr; rw [if_pos h]
    rw [e]
    clear e
    go_enter Try.func57, Try.ntmps57
    go_wp2
    go_ret
    exact ⟨rfl, rfl⟩

theorem adr_cases (n : Nat) (a : Int) : adr n a = 0 ∨ adr n a = 3 ∨ adr n a = 4 := by
  unfold adr
  split
  · exact .inr (.inr rfl)
  · split
    · exact .inr (.inl rfl)
    · exact .inl rfl
/-- What a store leaves. -/
def storeV (n : Nat) (m : Nat → Int) (a v : Int) : Nat → Int := if adr n a = 0 then fun i => if i = (a / 8).toNat then v else m i else m
theorem pstore_any (g gf n cp : Nat) (m : Nat → Int) (a v : Int) (w : World) (hM : MemAt w g gf n cp m) (h0 : 0 ≤ a) (hv : 0 ≤ v ∧ v < 18446744073709551616) :
    Calls Try.prog 16 #[.pointer (some ⟨g, 0, none⟩), .int .u64 a, .int .u64 v] w fun e w' => e = .returned (.int .i64 (adr n a)) ∧ MemAt w' g gf n cp (storeV n m a v) ∧ Mod (· = gf) w w' := by
  unfold storeV
  by_cases hb : adr n a = 0
  · obtain ⟨j, rfl, hj⟩ := adr_good h0 hb
    rw [if_pos hb, hb]
    have e : (8 * (j : Int) / 8).toNat = j := by omega
    rw [e]
    refine (store_in g gf n cp m j v w hM hj).mono ?_
    rintro e w' ⟨rfl, rfl⟩
    exact ⟨rfl, hM.set_ j hj v hv, Mod.one _ _ _ _⟩
  · rw [if_neg hb]
    refine (store_bad g gf n cp m a v w hM h0 hb).mono ?_
    rintro e w' ⟨rfl, rfl⟩
    exact ⟨rfl, hM, Mod.refl _ _⟩
set_option maxHeartbeats 1000000 in
theorem rstore_any (g gf n cp : Nat) (m : Nat → Int) (a v : Int) (w : World) (hM : RefAt w g gf n cp m) (h0 : 0 ≤ a) (h1 : a < 18446744073709551616) (hv : 0 ≤ v ∧ v < 18446744073709551616) :
    Calls Try.prog 33 #[.pointer (some ⟨g, 0, none⟩), .int .u64 a, .int .u64 v] w fun e w' => e = .returned (.int .i64 (adr n a)) ∧ RefAt w' g gf n cp (storeV n m a v) ∧ Mod (· = gf) w w' := by
  have HM := hide hM
  have HV := hide hv
  clear hv
  unfold storeV
  by_cases hb : adr n a = 0
  · obtain ⟨j, rfl, hj⟩ := adr_good h0 hb
    have hw := (rwrong_any g gf n cp m (8 * (j : Int)) w hM h0 h1)
    rw [hb] at hw
    rw [if_pos hb, hb]
    have e : (8 * (j : Int) / 8).toNat = j := by omega
    rw [e]
    have c0 := hM.hd.cell 0
    have cj := hM.cell j hj
    have fj := hM.frozen j
    have hn := hM.le
    have HW := hide hw
    clear hM hw hb e
    go_enter Try.func33, Try.ntmps33
    go_wp2_with fail
    refine HW.out.mono ?_
    rintro e w' ⟨rfl, rfl⟩
    go_wp2_with fail
    go_ret
    exact ⟨rfl, HM.out.set_ j hj v HV.out, Mod.one _ _ _ _⟩
  · rw [if_neg hb]
    have hw := (rwrong_any g gf n cp m a w hM h0 h1)
    rcases adr_cases n a with h | h | h
    · exact absurd h hb
    · rw [h] at hw ⊢
      have HW := hide hw
      clear hM hw hb h
      go_enter Try.func33, Try.ntmps33
      go_wp2_with fail
      refine HW.out.mono ?_
      rintro e w' ⟨rfl, rfl⟩
      go_wp2_with fail
      go_ret
      exact ⟨rfl, HM.out, Mod.refl _ _⟩
    · rw [h] at hw ⊢
      have HW := hide hw
      clear hM hw hb h
      go_enter Try.func33, Try.ntmps33
      go_wp2_with fail
      refine HW.out.mono ?_
      rintro e w' ⟨rfl, rfl⟩
      go_wp2_with fail
      go_ret
      exact ⟨rfl, HM.out, Mod.refl _ _⟩
set_option maxHeartbeats 1000000 in
theorem rwords_bad (g gf n cp : Nat) (m : Nat → Int) (f : Int) (w : World) (hM : RefAt w g gf n cp m) (hb : f < 0 ∨ (n : Int) ≤ f) :
    Calls Try.prog 70 #[.pointer (some ⟨g, 0, none⟩), .int .i64 f] w fun e w' => e = .returned (.tuple #[.slice none 0 0, .int .i64 3]) ∧ w = w' := by
  have c0 := hM.hd.cell 0
  have hn := hM.le
  have HM := hide hM
  clear hM
  by_cases h : f < 0
  · clear hb
    go_enter Try.func70, Try.ntmps70
    go_wp2_with fail
    go_ret2
    exact ⟨rfl, rfl⟩
  · have h2 : (n : Int) ≤ f := by omega
    clear hb
    go_enter Try.func70, Try.ntmps70
    go_wp2_with fail
    refine (rframes_any _ _ _ _ _ _ HM.out).mono ?_
    rintro e w' ⟨rfl, rfl⟩
    go_wp2_with fail
    go_ret2
    exact ⟨rfl, rfl⟩
set_option maxRecDepth 100000 in
set_option maxHeartbeats 1000000 in
theorem rwords_in (g gf n cp : Nat) (m : Nat → Int) (f : Nat) (w : World) (hM : RefAt w g gf n cp m) (hf : f < n) :
    Calls Try.prog 70 #[.pointer (some ⟨g, 0, none⟩), .int .i64 f] w fun e w' => ∃ b c, e = .returned (.tuple #[.slice (some ⟨b, 0, none⟩) 8 c, .int .i64 0]) ∧ w.heap.size ≤ b ∧ (∀ j, j < 8 → w'.cell? ⟨b, j, none⟩ = some (.int .u64 (m (f * 8 + j)))) ∧ Below w.heap.size w w' := by
  obtain ⟨i0, hi0, hz0, hz1, hz2⟩ := info_parts u64Info
  have c0 := hM.hd.cell 0
  have hn := hM.le
  have hcp := hM.ncp
  have hcell := hM.cell
  have HM := hide hM
  have HC := hide hcell
  clear hM hcell
  go_enter Try.func70, Try.ntmps70
  go_wp2_with fail
  refine (rframes_any _ _ _ _ _ _ HM.out).mono ?_
  rintro e w' ⟨rfl, rfl⟩
  have hlc : 8 * f < cp := by omega
  have hlc2 : 8 * f + 8 ≤ cp := by omega
  have hi1 : (0 : Int) ≤ 8 * (f : Int) := by omega
  have hi2 : 8 * (f : Int) + 8 ≤ (cp : Int) := by omega
  have hm8 : 8 * f + 8 - 8 * f = 8 := by omega
  have HM8 := hide hm8
  clear hm8
  go_wp2_with (at_builtin; refine wpList_append_grows _ rfl (.const (.slice none 0 0)) (.tmp 23) 67 rfl 32 i0 (.int .u64 0) 1 8 Try.underlying67 hi0 hz0 hz1 hz2 rfl (by decide) none 0 0 [] rfl (fun _ => ⟨rfl, rfl⟩) rfl (fun b h => by cases h) ⟨gf, 8 * f, none⟩ (8 * f + 8 - 8 * f) (cp - 8 * f) (frameA m f).toList rfl ?c1 ?c2 (frameA_one m f) ?c3 ?c4 ?c5 (fun v' w1 hown hgrow => ?main))
  case c1 => rw [HM8.out]; rfl
  case c3 => rw [HM8.out]; decide
  case c4 => rw [HM8.out]; decide
  case c5 => rw [HM8.out]; decide
  case c2 =>
    intro j u hu
    have e : (⟨gf, 8 * f, none⟩ : Addr).add j = ⟨gf, 8 * f + j, none⟩ := by unfold Addr.add; split <;> simp_all
    have hj : j < 8 := (List.getElem?_eq_some_iff.1 hu).1
    rw [e, HC.out (8 * f + j) (by omega), ← hu, Nat.mul_comm 8 f]
    match j, hj with
    | 0, _ => rfl
    | 1, _ => rfl
    | 2, _ => rfl
    | 3, _ => rfl
    | 4, _ => rfl
    | 5, _ => rfl
    | 6, _ => rfl
    | 7, _ => rfl
  go_wp2
  rw [HM8.out] at hown
  obtain ⟨b, c, rfl, hb, _⟩ := hown.form (by decide)
  go_ret2
  refine ⟨b, c, rfl, hb, fun j hj => ?_, Below.grown (Below.refl _ w) hgrow (Nat.le_refl _) (fun k e => by cases e)⟩
  rw [hown.cellAt j (by omega)]
  match j, hj with
  | 0, _ => rfl
  | 1, _ => rfl
  | 2, _ => rfl
  | 3, _ => rfl
  | 4, _ => rfl
  | 5, _ => rfl
  | 6, _ => rfl
  | 7, _ => rfl

/-- j words of nought from frame f on. -/
def zeroPart (m : Nat → Int) (f j : Nat) : Nat → Int := fun i => if 8 * f ≤ i ∧ i < 8 * f + j then 0 else m i
theorem zeroPart_succ (m : Nat → Int) (f j : Nat) : (fun i => if i = 8 * f + j then 0 else zeroPart m f j i) = zeroPart m f (j + 1) := by
  funext i
  unfold zeroPart
  by_cases h1 : i = 8 * f + j
  · rw [if_pos h1, if_pos (by omega)]
  · rw [if_neg h1]
    by_cases h2 : 8 * f ≤ i ∧ i < 8 * f + j
    · rw [if_pos h2, if_pos (by omega)]
    · rw [if_neg h2, if_neg (by omega)]
theorem zeroPart_all (m : Nat → Int) (f k : Nat) : zeroPart m f (8 * k) = zeroTo m f k := by
  funext i
  unfold zeroPart zeroTo
  by_cases h : 8 * f ≤ i ∧ i < 8 * f + 8 * k
  · rw [if_pos h, if_pos (by omega)]
  · rw [if_neg h, if_neg (by omega)]
theorem zeroPart_nil (m : Nat → Int) (f : Nat) : zeroPart m f 0 = m := by
  funext i
  unfold zeroPart
  rw [if_neg (by omega)]
end Go.Proofs.Ytlfenakabedmfaa
