/- The walks of chapter 7's own answer: a translation at any core and page, Prefetch, Drop. -/
import Derived.Test.YtlfenakabedmfaaRef7
import Derived.Test.YtlfenakabedmfaaCores6
namespace Go.Proofs.Ytlfenakabedmfaa
open Go.RowKit Go.Shelf
/-- What holds of all cores behind any acts. -/
structure GoodK (n : Nat) (K : Nat → Core) : Prop where
  good : ∀ i, i < n → Good (K i).c
  reg : ∀ i, i < n → (K i).rt = -1 ∨ 0 ≤ (K i).rt
theorem GoodK.ok {n : Nat} {K : Nat → Core} (h : GoodK n K) : ∀ i, i < n → (K i).c.ok := fun i hi => (h.good i hi).ok
theorem GoodK.start (n : Nat) : GoodK n fun _ => core0 := ⟨fun _ _ => Good.empty, fun _ _ => .inl rfl⟩
theorem GoodK.upd_ {n : Nat} {K : Nat → Core} (h : GoodK n K) (i : Nat) {a b : Int} {c : Cache} (ha : a = -1 ∨ 0 ≤ a) (hc : Good c) : GoodK n (upd K i ⟨a, b, c⟩) :=
  ⟨fun j hj => by unfold upd; split; exact hc; exact h.good j hj, fun j hj => by unfold upd; split; exact ha; exact h.reg j hj⟩
theorem trInC_good {N : Nat} {m : Nat → Int} {p : Int} {x : Core} (h : Good x.c) : Good (trInC N m p x) := by
  unfold trInC
  split
  · exact h
  · split
    · exact h
    · split
      · exact h.fill _
      · exact h
theorem GoodK.trK {n : Nat} {K : Nat → Core} (h : GoodK n K) (N : Nat) (m : Nat → Int) (k p : Int) : GoodK n (trK n K N m k p) := by
  unfold Go.Proofs.Ytlfenakabedmfaa.trK
  split
  · rename_i ht
    obtain ⟨h0, h1, _⟩ := ht
    have hi : k.toNat < n := by omega
    exact h.upd_ _ (h.reg _ hi) (trInC_good (h.good _ hi))
  · exact h
theorem GoodK.dropK {n : Nat} {K : Nat → Core} (h : GoodK n K) (P : Tr → Bool) (k : Nat) : GoodK n (dropK K P k) :=
  ⟨fun j hj => by unfold Go.Proofs.Ytlfenakabedmfaa.dropK; split; exact (h.good j hj).drop _ _; exact h.good j hj, fun j hj => by unfold Go.Proofs.Ytlfenakabedmfaa.dropK; split; exact h.reg j hj; exact h.reg j hj⟩
theorem rctrans_any (g gb cap n : Nat) (tl : Nat → Nat) (K : Nat → Core) (gm gf N cp : Nat) (m : Nat → Int) (k p : Int) (w : World) (hC : RCoresAt w g gb cap n tl K) (hM : RefAt w gm gf N cp m) (hG : GoodK n K) :
    Calls Try.prog 58 #[.pointer (some ⟨g, 0, none⟩), .int .i64 k, .pointer (some ⟨gm, 0, none⟩), .int .i64 p] w fun e w' =>
      e = .returned (.tuple #[.agg (trV n K N m k p).1.row, .bool (trV n K N m k p).2.1, .int .i64 (trV n K N m k p).2.2]) ∧ RCoresAt w' g gb cap n tl (trK n K N m k p) ∧ Mod (crS g gb n tl) w w' := by
  unfold trV trK
  by_cases h : trMay n k p
  · rw [if_pos h, if_pos h]
    obtain ⟨h0, h1, h2, h3⟩ := h
    obtain ⟨i, rfl⟩ : ∃ i : Nat, k = i := ⟨k.toNat, by omega⟩
    have hin : i < n := by omega
    rw [Int.toNat_natCast]
    exact (rctrans_in g gb cap n tl K gm gf N cp m i p w hC hM hin h2 h3 (hG.good i hin) (hG.reg i hin)).mono fun _ _ h => ⟨h.1, h.2.1, Mod.crT hin h.2.2⟩
  · rw [if_neg h, if_neg h]
    unfold trMay at h
    exact (rctrans_bad _ g gb cap n tl K k p w hC (by omega)).mono fun _ _ h => ⟨h.1, hC.on h.2, Mod.of_below h.2 _⟩
set_option maxHeartbeats 1000000 in
theorem rcpre_any (g gb cap n : Nat) (tl : Nat → Nat) (K : Nat → Core) (gm gf N cp : Nat) (m : Nat → Int) (k p : Int) (w : World) (hC : RCoresAt w g gb cap n tl K) (hM : RefAt w gm gf N cp m) (hG : GoodK n K) :
    Calls Try.prog 59 #[.pointer (some ⟨g, 0, none⟩), .int .i64 k, .pointer (some ⟨gm, 0, none⟩), .int .i64 p] w fun e w' =>
      e = .returned (.bool ((trV n K N m k p).2.2 == 0 && !(trV n K N m k p).2.1)) ∧ RCoresAt w' g gb cap n tl (trK n K N m k p) ∧ Mod (crS g gb n tl) w w' := by
  have HC := hide hC
  have HM := hide hM
  have HO := hide hG
  have HT := hide (fun w => rctrans_any g gb cap n tl K gm gf N cp m k p w)
  clear hC hM hG
  obtain ⟨V, hV⟩ : ∃ V, trV n K N m k p = V := ⟨_, rfl⟩
  rw [hV] at HT ⊢
  clear hV
  obtain ⟨⟨a, b, c, d, f⟩, o, q⟩ := V
  go_enter Try.func59, Try.ntmps59
  go_wp2_with fail
  refine (HT.out _ HC.out HM.out HO.out).mono ?_
  rintro e w2 ⟨rfl, hc, hm⟩
  have hb := (Below.refl _ w2).alloc (Nat.le_refl _) (.cells #[.int .i64 a, .int .i64 b, .int .i64 c, .bool d, .bool f] 42)
  have HC2 := hide (hc.on hb)
  have HM2 := hide (hm.trans (Mod.of_below hb _))
  clear hc hm hb
  unfold Tr.row
  dsimp only
  by_cases h : q = 0
  · subst h
    cases o
    all_goals
      go_wp2_with fail
      go_ret
      exact ⟨rfl, HC2.out, HM2.out⟩
  · have t : (q == 0) = false := beq_eq_false_iff_ne.2 h
    clear h
    have T := hide t
    go_wp2_with fail
    go_ret
    exact ⟨by rw [T.out]; rfl, HC2.out, HM2.out⟩
set_option maxHeartbeats 2000000 in
theorem rcdrop_any (g gb cap n : Nat) (tl : Nat → Nat) (K : Nat → Core) (s q : Int) (w : World) (hC : RCoresAt w g gb cap n tl K) (hG : GoodK n K) :
    Calls Try.prog 62 #[.pointer (some ⟨g, 0, none⟩), .int .i64 s, .int .i64 q] w fun e w' => e = .returned (.int .i64 (dropC K (isDropR false s q) n)) ∧ RCoresAt w' g gb cap n tl (dropK K (isDropR false s q) n) ∧ Mod (crS g gb n tl) w w' := by
  have hn3 := hC.le
  have HC := hide hC
  have HG := hide hG
  clear hC hG
  go_enter Try.func62, Try.ntmps62
  go_wp2_with fail
  go_loopw [7, 8] (fun c i wr => ∃ j : Nat, j ≤ n ∧ c = .int .i64 (dropC K (isDropR false s q) j : Nat) ∧ i = .int .i64 j ∧ RCoresAt wr g gb cap n tl (dropK K (isDropR false s q) j) ∧ Mod (crS g gb n tl) w wr) (fun _ i _ => n - (intOf i).toNat)
  case atStart => exact ⟨0, Nat.zero_le _, rfl, rfl, by rw [dropK_zero]; exact HC.out, Mod.refl _ _⟩
  case round =>
    obtain ⟨j, hj, rfl, rfl, hC, hm⟩ := hrel
    have HC2 := hide hC
    have HM2 := hide hm
    have z0 := hC.hd0
    by_cases hlt : j < n
    · have i0 : (0 : Int) ≤ (j : Int) := by omega
      have i1 : (j : Int) < (n : Int) := by omega
      have ht := hC.tlb j hlt
      have c2 := (hC.cells j hlt).2.2
      have hsu := dropK_succ K (isDropR false s q) j
      have hat := dropK_at K (isDropR false s q) j
      rw [hat] at ht
      have HT := hide ht
      have HGj := hide (HG.out.good j hlt)
      have hdl := dropC_le K (isDropR false s q) j
      have hdn := Nat.le_trans (dropN_le (K j).c (isDropR false s q) (vis (K j).c 8)) (vis_len _ 8)
      have HDC := hide (show dropC K (isDropR false s q) (j + 1) = dropC K (isDropR false s q) j + dropN (K j).c (isDropR false s q) (vis (K j).c 8) from rfl)
      have HDR := hide (fun w => rdrop6 (tl j) (K j).c s q false w)
      have HSU := hide hsu
      have HAT := hide hat
      clear hC hm HC ht hsu hat
      generalize dropN (K j).c (isDropR false s q) (vis (K j).c 8) = dn at HDR HDC hdn
      generalize dropC K (isDropR false s q) j = dc at HDC hdl ⊢
      have hwrap : IntKind.i64.wrap ((dc : Int) + (dn : Int)) = ((dc + dn : Nat) : Int) := by rw [IntWalk.i64_in _ (by omega)]; push_cast; rfl
      go_wp2_with fail
      refine (HDR.out _ HT.out HGj.out).mono ?_
      rintro e w3 ⟨rfl, ht3, hm3⟩
      have h3 := HC2.out.setC j hlt ht3 hm3
      rw [HAT.out, HSU.out] at h3
      have HC3 := hide h3
      have HM3 := hide (HM2.out.trans (Mod.crT hlt hm3))
      clear h3 ht3 hm3 HC2 HM2 z0 c2
      go_wp2_with fail
      go_roundw
      case rel => exact ⟨j + 1, by omega, by rw [HDC.out]; simp, by simp, HC3.out, HM3.out⟩
      case measure => simp [intOf]; omega
    · obtain rfl : j = n := by omega
      clear hC hm HC
      go_wp2_with fail
      go_ret
      exact ⟨rfl, HC2.out, HM2.out⟩
end Go.Proofs.Ytlfenakabedmfaa
