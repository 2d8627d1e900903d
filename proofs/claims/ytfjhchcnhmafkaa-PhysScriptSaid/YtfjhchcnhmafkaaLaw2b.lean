/- The walks of the statements of chapter 2 that go over lists of acts: each returns true. -/
import Derived.Test.YtfjhchcnhmafkaaLaw2
import Derived.Test.YtfjhchcnhmafkaaPhys3
import Derived.Test.YtfjhchcnhmafkaaRef2
import Derived.Test.YtfjhchcnhmafkaaLaw0
import Derived.Deep.RegionHeld3
namespace Go.Proofs.Ytfjhchcnhmafkaa
open Go.RowKit
/-- An act's five numbers. -/
structure ActC where
  d : Int
  a : Int
  v : Int
  f : Int
  n : Int
/-- A list of acts as an argument. -/
def ActsAt (w : World) (A : Option Addr) (n : Nat) (xs : Nat → ActC) : Prop :=
  n = 0 ∨ ∃ b off, A = some ⟨b, off, none⟩ ∧ b < w.heap.size ∧ ∀ i, i < n →
    (w.cell? ⟨b, off + i * 5, none⟩ = some (.int .i64 (xs i).d) ∧ w.cell? ⟨b, off + i * 5 + 1, none⟩ = some (.int .u64 (xs i).a) ∧ w.cell? ⟨b, off + i * 5 + 2, none⟩ = some (.int .u64 (xs i).v) ∧
      w.cell? ⟨b, off + i * 5 + 3, none⟩ = some (.int .i64 (xs i).f) ∧ w.cell? ⟨b, off + i * 5 + 4, none⟩ = some (.int .i64 (xs i).n)) ∧
    (0 ≤ (xs i).a ∧ (xs i).a < 18446744073709551616) ∧ (0 ≤ (xs i).v ∧ (xs i).v < 18446744073709551616)
theorem cell_below {B : Nat} {w w' : World} (h : Below B w w') {b o : Nat} (hb : b < B) : w'.cell? ⟨b, o, none⟩ = w.cell? ⟨b, o, none⟩ := h.cell (p := ⟨b, o, none⟩) hb
/-- A word of a memory of so many words. -/
theorem at_word {a : Int} (h : 0 ≤ a) (h2 : a < 18446744073709551616) (c : Nat) (hc : 0 < c) (hc2 : c ≤ 65536) : ∃ j : Nat, IntKind.u64.wrap (IntKind.u64.wrap ((a.tmod (8 * (c : Int))).tdiv 8) * 8) = 8 * (j : Int) ∧ j < c := by
  obtain ⟨k, rfl⟩ := Int.eq_ofNat_of_zero_le h
  refine ⟨k % (8 * c) / 8, ?_, ?_⟩
  · have hm : 0 ≤ (k : Int) % (8 * (c : Int)) := Int.emod_nonneg _ (by omega)
    have hl : (k : Int) % (8 * (c : Int)) < 8 * (c : Int) := Int.emod_lt_of_pos _ (by omega)
    rw [Int.tmod_eq_emod_of_nonneg h, Int.tdiv_eq_ediv_of_nonneg hm, IntKind.wrap_u64, IntKind.wrap_u64]
    have e : ((k % (8 * c) / 8 : Nat) : Int) = (k : Int) % (8 * (c : Int)) / 8 := by push_cast; rfl
    rw [e]
    omega
  · have := Nat.mod_lt k (show 0 < 8 * c by omega)
    omega
theorem frameA_get (m : Nat → Int) (f : Nat) {j : Nat} (hj : j < 8) : (frameA m f)[j]? = some (.int .u64 (m (f * 8 + j))) := by
  match j, hj with
  | 0, _ => rfl
  | 1, _ => rfl
  | 2, _ => rfl
  | 3, _ => rfl
  | 4, _ => rfl
  | 5, _ => rfl
  | 6, _ => rfl
  | 7, _ => rfl
theorem MemAt.mod {S : Nat → Prop} {w w' : World} {g gf n cp : Nat} {m : Nat → Int} (h : MemAt w g gf n cp m) (hm : Mod S w w') (h1 : ¬ S g) (h2 : ¬ S gf) : MemAt w' g gf n cp m := h.same (hm.block g h.hd.lt h1) (hm.block gf h.ltf h2)
theorem below_mod {B : Nat} {S : Nat → Prop} {a b c : World} (h : Below B a b) (hB : B ≤ a.heap.size) (hm : Mod S b c) (hs : ∀ k, S k → B ≤ k) : Below B a c := h.trans (hm.below (Nat.le_trans hB h.size) hs)
set_option maxRecDepth 100000 in
set_option maxHeartbeats 4000000 in
theorem law_PhysCopies (w : World) (A : Option Addr) (n ca : Nat) (xs : Nat → ActC) (B : Option Addr) (k cb : Nat) (ys : Nat → ActC) (hA : ActsAt w A n xs) (hn : n ≤ 9223372036854775807) (hB : ActsAt w B k ys) (hk : k ≤ 9223372036854775807) :
    Calls Try.prog 4 #[.slice A n ca, .slice B k cb] w fun e w' => e = .returned (.bool true) ∧ Below w.heap.size w w' := by
  have HA := hide hA
  have HBB := hide hB
  clear hA hB
  by_cases h1 : 100 < n
  · go_enter Try.func4, Try.ntmps4
    go_wp2_with fail
    refine (awake2 _).mono ?_
    rintro e w1 ⟨rfl, hb⟩
    have HB := hide hb
    clear hb
    go_wp2_with fail
    go_ret
    exact ⟨rfl, HB.out⟩
  by_cases h2 : 100 < k
  · go_enter Try.func4, Try.ntmps4
    go_wp2_with fail
    refine (awake2 _).mono ?_
    rintro e w1 ⟨rfl, hb⟩
    have HB := hide hb
    clear hb
    go_wp2_with fail
    go_ret
    exact ⟨rfl, HB.out⟩
  have hn1 : n ≤ 100 := by omega
  have hk1 : k ≤ 100 := by omega
  go_enter Try.func4, Try.ntmps4
  go_wp2_with fail
  refine (new_in 8 _ (by decide) (by decide)).mono ?_
  rintro e w1 ⟨rfl, hM, hb⟩
  have HM := hide hM
  have HB := hide hb
  clear hM hb
  go_wp2_with fail
  go_loopw [7] (fun i wr => ∃ (j : Nat) (m : Nat → Int), j ≤ n ∧ i = .int .i64 j ∧ MemAt wr (w.heap.size + 1) w.heap.size 8 8 m ∧ Below w.heap.size w wr) (fun i _ => n - (intOf i).toNat)
  case atStart => exact ⟨0, _, Nat.zero_le _, rfl, HM.out, HB.out⟩
  case round =>
    obtain ⟨j, m, hj, rfl, hM, hb⟩ := hrel
    have HM2 := hide hM
    have HB2 := hide hb
    clear hM hb
    by_cases hlt : j < n
    · obtain ⟨b, off, rfl, hbl, hc⟩ := HA.out.resolve_left (by omega)
      obtain ⟨⟨_, c1, c2, _, _⟩, ⟨ha0, ha1⟩, hv⟩ := hc j hlt
      rw [← cell_below HB2.out hbl] at c1 c2
      obtain ⟨q, hq, hq8⟩ := at_word ha0 ha1 64 (by decide) (by decide)
      rw [show (8 * ((64 : Nat) : Int)) = 512 from rfl] at hq
      have HQ := hide hq
      have HV := hide hv
      have ij1 : (0 : Int) ≤ (j : Int) := by omega
      have ij2 : (j : Int) < (n : Int) := by omega
      clear hc hq hv
      go_wp2_with fail
      go_region_held3 (fun w' => w'.cell? ⟨b, off + j * 5 + 1, none⟩ = some (.int .u64 (xs j).a) ∧ w'.cell? ⟨b, off + j * 5 + 2, none⟩ = some (.int .u64 (xs j).v)) (first | go_keep | (exact ⟨hq1, hq2⟩)) ((go_at_call 21; rw [HQ.out]; refine (pstore_any _ _ _ _ _ _ _ _ (HM2.out.below (B := wr.heap.size) ((Below.refl _ _).drew) HM2.out.hd.lt HM2.out.ltf) (by omega) HV.out).mono ?_; rintro e w2 ⟨rfl, hM3, hm3⟩; have hq1 := (hm3.cell (show ¬ b = w.heap.size by omega) (o := off + j * 5 + 1) (Nat.lt_of_lt_of_le hbl HB2.out.size)).trans c1; have hq2 := (hm3.cell (show ¬ b = w.heap.size by omega) (o := off + j * 5 + 2) (Nat.lt_of_lt_of_le hbl HB2.out.size)).trans c2))
      go_wp2
      go_roundw
      case rel => exact ⟨j + 1, _, by omega, by simp, hM3, below_mod HB2.out (Nat.le_refl _) (S := (· = w.heap.size)) (hm3.of_drew) (fun k e => by omega)⟩
      case measure => simp [intOf]; omega
    · go_wp2_with fail
      refine (copy_in _ _ _ _ _ _ HM2.out).mono ?_
      rintro e w2 ⟨gc, fc, cc, rfl, hc, hgc, hfc, hb2⟩
      have HC := hide hc
      have HM3 := hide (HM2.out.below hb2 HM2.out.hd.lt HM2.out.ltf)
      have HB3 := hide (HB2.out.trans (hb2.mono HB2.out.size))
      have hz := HM2.out.hd.lt
      clear hc hb2
      go_wp2_with fail
      refine (copy_in _ _ _ _ _ _ HM3.out).mono ?_
      rintro e w3 ⟨gd, fd, cd, rfl, hd, hgd, hfd, hb3⟩
      have HD := hide hd
      have HM4 := hide (HM3.out.below hb3 HM3.out.hd.lt HM3.out.ltf)
      have HC4 := hide (HC.out.below hb3 HC.out.hd.lt HC.out.ltf)
      have HB4 := hide (HB3.out.trans (hb3.mono HB3.out.size))
      have l1 := HC.out.hd.lt
      have l2 := HC.out.ltf
      clear hd hb3
      go_wp2_with fail
      go_loopw [10] (fun i wr => ∃ (j : Nat) (m2 : Nat → Int), j ≤ k ∧ i = .int .i64 j ∧ MemAt wr gc fc 8 cc m2 ∧ MemAt wr (w.heap.size + 1) w.heap.size 8 8 m ∧ MemAt wr gd fd 8 cd m ∧ Below w.heap.size w wr) (fun i _ => k - (intOf i).toNat)
      case atStart => exact ⟨0, _, Nat.zero_le _, rfl, HC4.out, HM4.out, HD.out, HB4.out⟩
      case round =>
        obtain ⟨i2, m2, hi2, rfl, hc, hm, hd, hb⟩ := hrel
        have HC5 := hide hc
        have HM5 := hide hm
        have HD5 := hide hd
        have HB5 := hide hb
        clear hc hm hd hb
        by_cases hlt2 : i2 < k
        · obtain ⟨b, off, rfl, hbl, hc⟩ := HBB.out.resolve_left (by omega)
          obtain ⟨⟨_, c1, c2, _, _⟩, ⟨ha0, ha1⟩, hv⟩ := hc i2 hlt2
          rw [← cell_below HB5.out hbl] at c1 c2
          obtain ⟨q, hq, hq8⟩ := at_word ha0 ha1 64 (by decide) (by decide)
          rw [show (8 * ((64 : Nat) : Int)) = 512 from rfl] at hq
          have HQ := hide hq
          have HV := hide hv
          have ij1 : (0 : Int) ≤ (i2 : Int) := by omega
          have ij2 : (i2 : Int) < (k : Int) := by omega
          have hsz := HB4.out.size
          have l3 := HM2.out.hd.lt
          clear hc hq hv
          go_wp2_with fail
          go_region_held3 (fun w' => w'.cell? ⟨b, off + i2 * 5 + 1, none⟩ = some (.int .u64 (ys i2).a) ∧ w'.cell? ⟨b, off + i2 * 5 + 2, none⟩ = some (.int .u64 (ys i2).v)) (first | go_keep | (exact ⟨hq1, hq2⟩)) ((go_at_call 21; rw [HQ.out]; refine (pstore_any _ _ _ _ _ _ _ _ (HC5.out.below (B := wr.heap.size) ((Below.refl _ _).drew) HC5.out.hd.lt HC5.out.ltf) (by omega) HV.out).mono ?_; rintro e w2 ⟨rfl, hM3, hm3⟩; have hq1 := (hm3.cell (show ¬ b = fc by omega) (o := off + i2 * 5 + 1) (Nat.lt_of_lt_of_le hbl HB5.out.size)).trans c1; have hq2 := (hm3.cell (show ¬ b = fc by omega) (o := off + i2 * 5 + 2) (Nat.lt_of_lt_of_le hbl HB5.out.size)).trans c2))
          go_wp2
          go_roundw
          case rel => exact ⟨i2 + 1, _, by omega, by simp, hM3, HM5.out.mod hm3.of_drew (by omega) (by omega), HD5.out.mod hm3.of_drew (by omega) (by omega), below_mod HB5.out (Nat.le_refl _) (S := (· = fc)) (hm3.of_drew) (fun k e => by omega)⟩
          case measure => simp [intOf]; omega
        · go_wp2_with fail
          go_loopw [11] (fun i wr => ∃ j : Nat, j ≤ 8 ∧ i = .int .i64 j ∧ MemAt wr (w.heap.size + 1) w.heap.size 8 8 m ∧ MemAt wr gd fd 8 cd m ∧ Below w.heap.size w wr) (fun i _ => 8 - (intOf i).toNat)
          case atStart => exact ⟨0, Nat.zero_le _, rfl, HM5.out, HD5.out, HB5.out⟩
          case round =>
            obtain ⟨f, hf, rfl, hm, hd, hb⟩ := hrel
            have HM6 := hide hm
            have HD6 := hide hd
            have HB6 := hide hb
            clear hm hd hb
            by_cases hlt3 : f < 8
            · go_wp2_with fail
              refine (words_in _ _ _ _ _ _ _ HM6.out hlt3).mono ?_
              rintro e w4 ⟨rfl, hw4⟩
              have bl4 : Blk w4 wr.heap.size 109 (frameA m f) := by rw [hw4]; exact Blk.new _ _ _
              have be4 : Below wr.heap.size wr w4 := by rw [hw4]; exact (Below.refl _ _).alloc (Nat.le_refl _) _
              have HL4 := hide bl4
              have HE4 := hide be4
              clear bl4 be4 hw4
              go_wp2_with fail
              refine (words_in _ _ _ _ _ _ _ (HD6.out.below HE4.out HD6.out.hd.lt HD6.out.ltf) hlt3).mono ?_
              rintro e w5 ⟨rfl, hw5⟩
              have bl5 : Blk w5 w4.heap.size 109 (frameA m f) := by rw [hw5]; exact Blk.new _ _ _
              have be5 : Below w4.heap.size w4 w5 := by rw [hw5]; exact (Below.refl _ _).alloc (Nat.le_refl _) _
              have bl4' : Blk w5 wr.heap.size 109 (frameA m f) := HL4.out.below be5 HL4.out.lt
              have HL5 := hide bl5
              have HL4' := hide bl4'
              have HE5 := hide be5
              clear bl5 be5 hw5 bl4'
              go_wp2_with fail
              refine (sameWords_yes _ _ 8 _ _ (fun j => m (f * 8 + j)) _ (by decide) (fun j hj => (HL4'.out.cell j).trans (frameA_get m f hj)) (fun j hj => (HL5.out.cell j).trans (frameA_get m f hj))).mono ?_
              rintro e w6 ⟨rfl, hb6⟩
              have HE6 := hide (HE4.out.trans ((HE5.out.mono HE4.out.size).trans (hb6.mono (Nat.le_trans HE4.out.size HE5.out.size))))
              clear hb6
              go_wp2
              go_roundw
              case rel => exact ⟨f + 1, by omega, by simp, HM6.out.below HE6.out HM6.out.hd.lt HM6.out.ltf, HD6.out.below HE6.out HD6.out.hd.lt HD6.out.ltf, HB6.out.trans (HE6.out.mono HB6.out.size)⟩
              case measure => simp [intOf]; omega
            · go_wp2_with fail
              refine (awake2 _).mono ?_
              rintro e w4 ⟨rfl, hb4⟩
              have HE4 := hide hb4
              clear hb4
              go_wp2_with fail
              go_ret
              exact ⟨rfl, HB6.out.trans (HE4.out.mono HB6.out.size)⟩
end Go.Proofs.Ytfjhchcnhmafkaa
