/- The walks of package cores: Prefetch, a translation at any core and page. -/
import Derived.Test.YtlfenakabedmfaaCores3
namespace Go.Proofs.Ytlfenakabedmfaa
open Go.RowKit Go.Shelf
/-- Has a machine such a core, and a space such a page? -/
def trMay (n : Nat) (k p : Int) : Prop := 0 ≤ k ∧ k < n ∧ 0 ≤ p ∧ p < 512
instance (n : Nat) (k p : Int) : Decidable (trMay n k p) := by unfold trMay; infer_instance
def trV (n : Nat) (K : Nat → Core) (N : Nat) (m : Nat → Int) (k p : Int) : Tr × Bool × Int := if trMay n k p then trIn N m p (K k.toNat) else (Tr.zero, false, 3)
/-- All cores behind it. -/
def trK (n : Nat) (K : Nat → Core) (N : Nat) (m : Nat → Int) (k p : Int) : Nat → Core := if trMay n k p then upd K k.toNat ⟨(K k.toNat).rt, (K k.toNat).sp, trInC N m p (K k.toNat)⟩ else K
theorem ctrans_any (g gb cap n : Nat) (tl : Nat → Nat) (K : Nat → Core) (gm gf N cp : Nat) (m : Nat → Int) (k p : Int) (w : World) (hC : CoresAt w g gb cap n tl K) (hM : MemAt w gm gf N cp m) (hok : ∀ i, i < n → (K i).c.ok) :
    Calls Try.prog 23 #[.pointer (some ⟨g, 0, none⟩), .int .i64 k, .pointer (some ⟨gm, 0, none⟩), .int .i64 p] w fun e w' =>
      e = .returned (.tuple #[.agg (trV n K N m k p).1.row, .bool (trV n K N m k p).2.1, .int .i64 (trV n K N m k p).2.2]) ∧ CoresAt w' g gb cap n tl (trK n K N m k p) ∧ Mod (crS g gb n tl) w w' := by
  unfold trV trK
  by_cases h : trMay n k p
  · rw [if_pos h, if_pos h]
    obtain ⟨h0, h1, h2, h3⟩ := h
    obtain ⟨i, rfl⟩ : ∃ i : Nat, k = i := ⟨k.toNat, by omega⟩
    have hin : i < n := by omega
    rw [Int.toNat_natCast]
    exact (ctrans_in g gb cap n tl K gm gf N cp m i p w hC hM hin h2 h3 (hok i hin)).mono fun _ _ h => ⟨h.1, h.2.1, Mod.crT hin h.2.2⟩
  · rw [if_neg h, if_neg h]
    unfold trMay at h
    exact (ctrans_bad _ g gb cap n tl K k p w hC (by omega)).mono fun _ _ h => ⟨h.1, hC.on h.2, Mod.of_below h.2 _⟩
theorem CrAt.apart {w : World} {g gb cap n : Nat} {tl : Nat → Nat} {K : Nat → Core} {gm gf N cp : Nat} {m : Nat → Int} (hC : CoresAt w g gb cap n tl K) (hM : MemAt w gm gf N cp m) : ∀ k, crS g gb n tl k → gm ≠ k ∧ gf ≠ k := by
  obtain ⟨cs2, hb2, _⟩ := hM.row
  obtain ⟨cs, hb, _⟩ := hC.row
  rintro k (rfl | rfl | ⟨i, hi, rfl⟩)
  · exact ⟨hM.hd.ne_ hC.hd (by decide), hb2.ne_ hC.hd (by decide)⟩
  · exact ⟨hM.hd.ne_ hb (by decide), hb2.ne_ hb (by decide)⟩
  · exact hM.apart (hC.tlb i hi)
theorem MemAt.modT {S : Nat → Prop} {w w' : World} {g gf n cp : Nat} {m : Nat → Int} (h : MemAt w g gf n cp m) (hm : Mod S w w') (h1 : ¬ S g) (h2 : ¬ S gf) : MemAt w' g gf n cp m := h.same (hm.block g h.hd.lt h1) (hm.block gf h.ltf h2)
theorem MemAt.crS {w w' : World} {g gb cap n : Nat} {tl : Nat → Nat} {K : Nat → Core} {gm gf N cp : Nat} {m : Nat → Int} (hM : MemAt w gm gf N cp m) (hC : CoresAt w g gb cap n tl K) (hm : Mod (crS g gb n tl) w w') : MemAt w' gm gf N cp m :=
  hM.modT hm (fun h => (hC.apart hM _ h).1 rfl) (fun h => (hC.apart hM _ h).2 rfl)
/-- A store to memory leaves the cores. -/
theorem CrAt.store {w w' : World} {g gb cap n : Nat} {tl : Nat → Nat} {K : Nat → Core} {gm gf N cp : Nat} {m : Nat → Int} (hC : CoresAt w g gb cap n tl K) (hM : MemAt w gm gf N cp m) (hm : Mod (· = gf) w w') : CoresAt w' g gb cap n tl K :=
  hC.mod hm (fun k hk e => (hC.apart hM k hk).2 e.symm)
set_option maxHeartbeats 1000000 in
theorem cpre_nil (q : Option Addr) (k p : Int) (w : World) : Calls Try.prog 19 #[.pointer none, .int .i64 k, .pointer q, .int .i64 p] w fun e w' => e = .returned (.bool false) ∧ Below w.heap.size w w' := by
  go_enter Try.func19, Try.ntmps19
  go_wp2_with fail
  refine (ctrans_nil _ _ _ _).mono ?_
  rintro e w' ⟨rfl, hb⟩
  have HB := hide (hb.alloc hb.size (.cells #[.int .i64 0, .int .i64 0, .int .i64 0, .bool false, .bool false] 42))
  clear hb
  unfold Tr.row
  go_wp2_with fail
  go_ret
  exact ⟨rfl, HB.out⟩
set_option maxHeartbeats 1000000 in
theorem cpre_any (g gb cap n : Nat) (tl : Nat → Nat) (K : Nat → Core) (gm gf N cp : Nat) (m : Nat → Int) (k p : Int) (w : World) (hC : CoresAt w g gb cap n tl K) (hM : MemAt w gm gf N cp m) (hok : ∀ i, i < n → (K i).c.ok) :
    Calls Try.prog 19 #[.pointer (some ⟨g, 0, none⟩), .int .i64 k, .pointer (some ⟨gm, 0, none⟩), .int .i64 p] w fun e w' =>
      e = .returned (.bool ((trV n K N m k p).2.2 == 0 && !(trV n K N m k p).2.1)) ∧ CoresAt w' g gb cap n tl (trK n K N m k p) ∧ Mod (crS g gb n tl) w w' := by
  have HC := hide hC
  have HM := hide hM
  have HO := hide hok
  have HT := hide (fun w => ctrans_any g gb cap n tl K gm gf N cp m k p w)
  clear hC hM hok
  obtain ⟨V, hV⟩ : ∃ V, trV n K N m k p = V := ⟨_, rfl⟩
  rw [hV] at HT ⊢
  clear hV
  obtain ⟨⟨a, b, c, d, f⟩, o, q⟩ := V
  go_enter Try.func19, Try.ntmps19
  go_wp2_with fail
  refine (HT.out _ HC.out HM.out HO.out).mono ?_
  rintro e w2 ⟨rfl, hc, hm⟩
  have hb := (Below.refl _ w2).alloc (Nat.le_refl _) (.cells #[.int .i64 a, .int .i64 b, .int .i64 c, .bool d, .bool f] 42)
  have HC2 := hide (hc.on hb)
  have HM2 := hide (hm.trans (Mod.of_below hb _))
  clear hc hm hb
  unfold Tr.row
  dsimp only
  by_cases h : q = 0
  · subst h
    cases o
    all_goals
      go_wp2_with fail
      go_ret
      exact ⟨rfl, HC2.out, HM2.out⟩
  · have t : (q == 0) = false := beq_eq_false_iff_ne.2 h
    clear h
    have T := hide t
    go_wp2_with fail
    go_ret
    exact ⟨by rw [T.out]; rfl, HC2.out, HM2.out⟩
end Go.Proofs.Ytlfenakabedmfaa
