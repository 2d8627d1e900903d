/- A slice of words as an argument; both of the statements of chapter 5. -/
import Derived.Test.YtpmldcgljfkpnaaSlices
import Derived.Test.YtpmldcgljfkpnaaRef2
import Derived.Test.YtpmldcgljfkpnaaLaw5
import Derived.ChangeSlices
namespace Go.Proofs.Ytpmldcgljfkpnaa
open Go.ChangeShapes Go.WideShapes Go.Deep Go.RowKit
/-- n words from a place on. -/
def U64At (w : World) (A : Option Addr) (n : Nat) (xs : Nat → Int) : Prop := n = 0 ∨ ∃ b off, A = some ⟨b, off, none⟩ ∧ b < w.heap.size ∧ ∀ i, i < n → w.cell? ⟨b, off + i, none⟩ = some (.int .u64 (xs i)) ∧ 0 ≤ xs i ∧ xs i < 18446744073709551616
theorem U64At.below {w w' : World} {A : Option Addr} {n : Nat} {xs : Nat → Int} (h : U64At w A n xs) (hb : Below w.heap.size w w') : U64At w' A n xs := by
  rcases h with h | ⟨b, off, h1, h2, h3⟩
  · exact .inl h
  · exact .inr ⟨b, off, h1, Nat.lt_of_lt_of_le h2 hb.size, fun i hi => ⟨(hb.cell (p := ⟨b, off + i, none⟩) h2).trans (h3 i hi).1, (h3 i hi).2⟩⟩
section
variable {H : Type} {enc : TypeId × Value → H} {w : World}
theorem open_u64s {v : Value} {d : DataW H} {p : List MemPlace} {r : Reach} {b0 : Nat} (hv : Value.okWide Try.prog w r b0 35 v) (h : DataW.Trod enc Try.prog w 0 (fun _ => true) true 35 v d p) :
    ∃ (A : Option Addr) (n c : Nat) (xs : Nat → Int), v = .slice A n c ∧ n ≤ maxLen ∧ U64At w A n xs := by
  obtain ⟨A, n, c, rfl⟩ := okWide_slice Try.underlying35 hv
  obtain ⟨fuel, hf⟩ := h
  rcases open_ints Try.underlying35 Try.underlying28 (by kernel_rfl) hf with ⟨hcs, _⟩ | ⟨a, len, cap, zs, hcs, _, hl, hm, hz, _, hcell, hwz⟩
  · simp [Value.cells] at hcs
    obtain ⟨rfl, rfl, rfl⟩ := hcs
    exact ⟨none, 0, 0, fun _ => 0, rfl, Nat.zero_le _, .inl rfl⟩
  · simp [Value.cells] at hcs
    obtain ⟨rfl, rfl, rfl⟩ := hcs
    refine ⟨_, n, c, fun i => zs.getD i 0, rfl, Nat.le_trans hl hm, ?_⟩
    rcases Nat.eq_zero_or_pos n with h0n | hpos
    · exact .inl h0n
    right
    simp only [if_true] at hz
    have hc0 := hcell 0 (by omega)
    have hs : a.spot = none := by
      have := World.cell?_spot hc0
      simpa [Addr.add] using this
    obtain ⟨b, off, sp⟩ := a
    obtain rfl : sp = none := hs
    refine ⟨b, off, rfl, ?_, fun i hi => ⟨?_, ?_⟩⟩
    · have := World.block_lt_of_cell? w _ hc0
      simpa [Addr.add] using this
    · have := hcell i (by omega)
      rw [Addr.add_mid] at this
      exact this
    · have hg : zs.getD i 0 ∈ zs := by
        rw [List.getD_eq_getElem?_getD, List.getElem?_eq_getElem (by omega : i < zs.length), Option.getD_some]
        exact List.getElem_mem _
      exact wfu (hwz _ hg)
end
theorem RefAt.modS {S : Nat → Prop} {w w' : World} {g gf n cp : Nat} {m : Nat → Int} (h : RefAt w g gf n cp m) (hm : Mod S w w') (h1 : ¬ S g) (h2 : ¬ S gf) : RefAt w' g gf n cp m := h.same (hm.block g h.hd.lt h1) (hm.block gf h.ltf h2)
theorem MemAt.modS {S : Nat → Prop} {w w' : World} {g gf n cp : Nat} {m : Nat → Int} (h : MemAt w g gf n cp m) (hm : Mod S w w') (h1 : ¬ S g) (h2 : ¬ S gf) : MemAt w' g gf n cp m := h.same (hm.block g h.hd.lt h1) (hm.block gf h.ltf h2)
def bothM (N : Nat) (xs : Nat → Int) : Nat → Nat → Int
  | 0 => fun _ => 0
  | k + 1 => storeV N (bothM N xs k) (8 * (k : Int)) (xs k)
set_option maxHeartbeats 1000000 in
theorem both_bad (fr : Int) (A : Option Addr) (n c : Nat) (w : World) (h : fr < 1 ∨ 64 < fr) :
    Calls Try.prog 12 #[.int .i64 fr, .slice A n c] w fun e w' => e = .returned (.tuple #[.pointer none, .pointer none]) ∧ w = w' := by
  have HH := hide h
  clear h
  go_enter Try.func12, Try.ntmps12
  go_wp2_with fail
  refine (new_bad _ _ HH.out).mono ?_
  rintro e w' ⟨rfl, rfl⟩
  go_wp2_with fail
  refine (rnew_bad _ _ HH.out).mono ?_
  rintro e w' ⟨rfl, rfl⟩
  go_wp2_with fail
  refine wp_loop_rounds 1 ?_
  rw [rounds_succ]
  go_wp2_with fail
  all_goals
    go_ret2
    exact ⟨rfl, rfl⟩
set_option maxHeartbeats 2000000 in
theorem both_in (N : Nat) (A : Option Addr) (n c : Nat) (xs : Nat → Int) (w : World) (h1 : 1 ≤ N) (h2 : N ≤ 64) (hA : U64At w A n xs) (hn : n ≤ 128) :
    Calls Try.prog 12 #[.int .i64 N, .slice A n c] w fun e w' => ∃ g gf cp rg rf rc : Nat, e = .returned (.tuple #[.pointer (some ⟨g, 0, none⟩), .pointer (some ⟨rg, 0, none⟩)]) ∧ MemAt w' g gf N cp (bothM N xs n) ∧ RefAt w' rg rf N rc (bothM N xs n) ∧ Below w.heap.size w w' := by
  go_enter Try.func12, Try.ntmps12
  go_wp2_with fail
  refine (new_in N _ h1 h2).mono ?_
  rintro e w1 ⟨rfl, hM, hb⟩
  have HM := hide hM
  have HB := hide hb
  clear hM hb
  go_wp2_with fail
  refine (rnew_in N _ h1 h2).mono ?_
  rintro e w2 ⟨rfl, hR, hb⟩
  obtain ⟨rf, hrf⟩ : ∃ rf, w1.heap.size = rf := ⟨_, rfl⟩
  have hsz := HB.out.size
  rw [hrf] at hR hb hsz
  have HR := hide hR
  have HM2 := hide (HM.out.below hb (by rw [← hrf]; exact HM.out.hd.lt) (by rw [← hrf]; exact HM.out.ltf))
  have HB2 := hide (HB.out.trans (hb.mono hsz))
  have hne : w.heap.size + 1 < rf := by rw [← hrf]; exact HM.out.hd.lt
  rw [hrf]
  clear hR hb hrf
  go_wp2_with fail
  have HA := hide hA
  clear hA
  go_loopw [10] (fun i wr => ∃ j : Nat, j ≤ n ∧ i = .int .i64 j ∧ MemAt wr (w.heap.size + 1) w.heap.size N N (bothM N xs j) ∧ RefAt wr (rf + 1) rf N (8 * N) (bothM N xs j) ∧ Below w.heap.size w wr) (fun i _ => n - (intOf i).toNat)
  case atStart => exact ⟨0, Nat.zero_le _, rfl, HM2.out, HR.out, HB2.out⟩
  case round =>
    obtain ⟨j, hj, rfl, hm, hr, hb⟩ := hrel
    have HM3 := hide hm
    have HR3 := hide hr
    have HB3 := hide hb
    clear hm hr hb
    by_cases hlt : j < n
    · obtain ⟨b, off, rfl, hbl, hc⟩ := HA.out.resolve_left (by omega)
      obtain ⟨c0, hv0, hv1⟩ := hc j hlt
      have cj := (HB3.out.cell (p := ⟨b, off + j, none⟩) hbl).trans c0
      clear c0 hc
      have HV := hide (And.intro hv0 hv1)
      clear hv0 hv1
      go_wp2_with fail
      refine (pstore_any _ _ _ _ _ (8 * (j : Int)) (xs j) _ HM3.out (by omega) HV.out).mono ?_
      rintro e w4 ⟨rfl, hM4, hm4⟩
      have hr4 := HR3.out.modS hm4 (by omega) (by omega)
      have cj4 := (hm4.cell (show ¬ b = w.heap.size by omega) (o := off + j) (Nat.lt_of_lt_of_le hbl HB3.out.size)).trans cj
      have HB4 := hide (below_mod HB3.out (Nat.le_refl _) hm4 (fun k hk => by have hk' : k = w.heap.size := hk; omega))
      have HM4 := hide hM4
      have HR4 := hide hr4
      clear hM4 hm4 hr4 cj HM3 HR3 HB3
      go_wp2_with fail
      refine (rstore_any _ _ _ _ _ (8 * (j : Int)) (xs j) _ HR4.out (by omega) (by omega) HV.out).mono ?_
      rintro e w5 ⟨rfl, hR5, hm5⟩
      have HM5 := hide (HM4.out.modS hm5 (by omega) (by omega))
      have HB5 := hide (below_mod HB4.out (Nat.le_refl _) hm5 (fun k hk => by have hk' : k = rf := hk; omega))
      have HR5 := hide hR5
      clear hR5 hm5
      go_wp2_with fail
      go_roundw
      case rel => exact ⟨j + 1, by omega, by simp, HM5.out, HR5.out, HB5.out⟩
      case measure => simp [intOf]; omega
    · go_wp2_with fail
      go_ret2
      obtain rfl : j = n := by omega
      exact ⟨_, _, _, _, _, _, rfl, HM3.out, HR3.out, HB3.out⟩
end Go.Proofs.Ytpmldcgljfkpnaa
