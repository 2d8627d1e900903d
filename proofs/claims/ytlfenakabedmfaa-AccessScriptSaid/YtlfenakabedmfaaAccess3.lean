/- Chapter 8: Load and Store at any core and address. -/
import Derived.Test.YtlfenakabedmfaaAccess2
namespace Go.Proofs.Ytlfenakabedmfaa
open Go.RowKit Go.Shelf
section
variable (n : Nat) (K : Nat → Core) (N : Nat) (m : Nat → Int) (k va : Int) (wr : Bool)
/-- What is wrong with an access ahead of its translation. -/
def accBad : Int := if 32768 ≤ va then 1 else if va % 8 ≠ 0 then 2 else if ¬ (0 ≤ k ∧ k < n) ∨ (K k.toNat).rt < 0 then 3 else 0
def accV : Int × Int := if accBad n K k va ≠ 0 then (0, accBad n K k va) else accT (trV n K N m k (va / 64)) va wr
def accK : Nat → Core := if accBad n K k va ≠ 0 then K else trK n K N m k (va / 64)
/-- The fault's kind. -/
def accF : Int := if (accV n K N m k va wr).2 ≠ 0 then (accV n K N m k va wr).2 else if adr N (accV n K N m k va wr).1 = 0 then 0 else 4
def frOk : Prop := 0 ≤ (trV n K N m k (va / 64)).1.fr ∧ (trV n K N m k (va / 64)).1.fr < 64
def fltV (kd va : Int) (wr : Bool) : Array Value := if kd = 0 then fltA 0 0 false else fltA kd va wr
def accL : Int := if accF n K N m k va false = 0 then m ((accV n K N m k va false).1 / 8).toNat else 0
def accM (v : Int) : Nat → Int := if (accV n K N m k va true).2 = 0 then storeV N m (accV n K N m k va true).1 v else m
end
section
variable {n : Nat} {K : Nat → Core} {N : Nat} {m : Nat → Int} {k va : Int} {wr : Bool}
theorem accT_bad {T : Tr × Bool × Int} (h : (accT T va wr).2 ≠ 0) : (accT T va wr).1 = 0 := by
  unfold accT at *
  repeat' split
  all_goals simp_all
theorem accV_bad (h : (accV n K N m k va wr).2 ≠ 0) : (accV n K N m k va wr).1 = 0 := by
  unfold accV at *
  by_cases hb : accBad n K k va ≠ 0
  · rw [if_pos hb]
  · rw [if_neg hb] at h ⊢; exact accT_bad h
theorem accV_nonneg (hf : frOk n K N m k va) : 0 ≤ (accV n K N m k va wr).1 := by
  unfold accV accT
  unfold frOk at hf
  have : 0 ≤ va % 64 := Int.emod_nonneg _ (by decide)
  repeat' split
  all_goals dsimp only
  all_goals omega
end
theorem afind_any (g gb cap n : Nat) (tl : Nat → Nat) (K : Nat → Core) (gm gf N cp : Nat) (m : Nat → Int) (k va : Int) (wr : Bool) (w : World) (hC : CoresAt w g gb cap n tl K) (hM : MemAt w gm gf N cp m) (hok : ∀ i, i < n → (K i).c.ok) (h0 : 0 ≤ va) (hf : frOk n K N m k va) :
    Calls Try.prog 56 #[.pointer (some ⟨g, 0, none⟩), .pointer (some ⟨gm, 0, none⟩), .int .i64 k, .int .u64 va, .bool wr] w fun e w' => e = .returned (.tuple #[.int .u64 (accV n K N m k va wr).1, .int .i64 (accV n K N m k va wr).2]) ∧ CoresAt w' g gb cap n tl (accK n K N m k va) ∧ Mod (crS g gb n tl) w w' := by
  unfold accV accK accBad
  by_cases h1 : 32768 ≤ va
  · simp only [if_pos h1]
    exact (afind_range _ _ k va wr w h1).mono fun _ _ h => ⟨h.1, hC.on h.2, Mod.of_below h.2 _⟩
  simp only [if_neg h1]
  by_cases h2 : va % 8 ≠ 0
  · simp only [if_pos h2]
    exact (afind_align _ _ k va wr w h0 (by omega) h2).mono fun _ _ h => ⟨h.1, hC.on h.2, Mod.of_below h.2 _⟩
  simp only [if_neg h2]
  by_cases h3 : ¬ (0 ≤ k ∧ k < n) ∨ (K k.toNat).rt < 0
  · simp only [if_pos h3]
    by_cases h4 : 0 ≤ k ∧ k < n
    · obtain ⟨i, rfl⟩ : ∃ i : Nat, k = i := ⟨k.toNat, by omega⟩
      exact (afind_idle _ g gb cap n tl K i va wr w hC h0 (by omega) (by omega) (by omega) (.inr (h3.resolve_left fun h => h h4))).mono fun _ _ h => ⟨h.1, hC.on h.2, Mod.of_below h.2 _⟩
    · exact (afind_bad _ g gb cap n tl K k va wr w hC h0 (by omega) (by omega) (by omega)).mono fun _ _ h => ⟨h.1, hC.on h.2, Mod.of_below h.2 _⟩
  simp only [if_neg h3]
  have h4 : 0 ≤ k ∧ k < n := Classical.byContradiction fun h => h3 (.inl h)
  obtain ⟨i, rfl⟩ : ∃ i : Nat, k = i := ⟨k.toNat, by omega⟩
  have h5 : 0 ≤ (K i).rt := Int.not_lt.1 fun h => h3 (.inr h)
  exact (afind_in g gb cap n tl K gm gf N cp m i va wr w hC hM hok h0 (by omega) (by omega) (by omega) h5 hf).mono fun _ _ h => ⟨h.1, h.2.1, h.2.2⟩
theorem aload_any (g gb cap n : Nat) (tl : Nat → Nat) (K : Nat → Core) (gm gf N cp : Nat) (m : Nat → Int) (k va : Int) (w : World) (hC : CoresAt w g gb cap n tl K) (hM : MemAt w gm gf N cp m) (hok : ∀ i, i < n → (K i).c.ok) (h0 : 0 ≤ va) (hf : frOk n K N m k va) :
    Calls Try.prog 28 #[.pointer (some ⟨g, 0, none⟩), .pointer (some ⟨gm, 0, none⟩), .int .i64 k, .int .u64 va] w fun e w' => e = .returned (.tuple #[.int .u64 (accL n K N m k va), .agg (fltV (accF n K N m k va false) va false)]) ∧ CoresAt w' g gb cap n tl (accK n K N m k va) ∧ Mod (crS g gb n tl) w w' := by
  have HF := fun W (hb : Below w.heap.size w W) => afind_any g gb cap n tl K gm gf N cp m k va false W (hC.on hb) (hM.on hb) hok h0 hf
  unfold accL fltV accF
  by_cases hk : (accV n K N m k va false).2 = 0
  · rw [hk] at HF ⊢
    refine (aload_good g gb cap n tl K _ gm gf N cp m k va _ w hC hM (accV_nonneg hf) HF).mono fun e w' h => ⟨h.1.trans ?_, h.2⟩
    unfold loadV
    rw [if_neg (by decide : ¬ ((0 : Int) ≠ 0))]
    by_cases ha : adr N (accV n K N m k va false).1 = 0
    · simp only [if_pos ha, if_true]
    · simp only [if_neg ha, if_neg (by decide : ¬ ((4 : Int) = 0))]
  · rw [accV_bad hk] at HF ⊢
    rw [if_pos hk]
    simp only [if_neg hk]
    exact aload_fault _ _ k va _ w (crS g gb n tl) (fun W => CoresAt W g gb cap n tl (accK n K N m k va)) hk (fun j hj => hC.lt hj) (fun W W' h hm => h.mod hm fun j hj e => by have := hC.lt hj; have e' : j = w.heap.size := e; omega) HF
theorem astore_any (g gb cap n : Nat) (tl : Nat → Nat) (K : Nat → Core) (gm gf N cp : Nat) (m : Nat → Int) (k va v : Int) (w : World) (hC : CoresAt w g gb cap n tl K) (hM : MemAt w gm gf N cp m) (hok : ∀ i, i < n → (K i).c.ok) (h0 : 0 ≤ va) (hv : 0 ≤ v ∧ v < 18446744073709551616) (hf : frOk n K N m k va) :
    Calls Try.prog 27 #[.pointer (some ⟨g, 0, none⟩), .pointer (some ⟨gm, 0, none⟩), .int .i64 k, .int .u64 va, .int .u64 v] w fun e w' => e = .returned (.agg (fltV (accF n K N m k va true) va true)) ∧ CoresAt w' g gb cap n tl (accK n K N m k va) ∧ MemAt w' gm gf N cp (accM n K N m k va v) ∧ Mod (fun j => crS g gb n tl j ∨ j = gf) w w' := by
  have HF := fun W (hb : Below w.heap.size w W) => afind_any g gb cap n tl K gm gf N cp m k va true W (hC.on hb) (hM.on hb) hok h0 hf
  unfold accM fltV accF
  by_cases hk : (accV n K N m k va true).2 = 0
  · rw [hk] at HF ⊢
    refine (astore_good g gb cap n tl K _ gm gf N cp m k va v _ w hC hM (accV_nonneg hf) hv HF).mono fun e w' h => ⟨h.1.trans ?_, h.2.1, by rw [if_pos rfl]; exact h.2.2.1, h.2.2.2⟩
    rw [if_neg (by decide : ¬ ((0 : Int) ≠ 0))]
    by_cases ha : adr N (accV n K N m k va true).1 = 0
    · simp only [if_pos ha, if_true]
    · simp only [if_neg ha, if_neg (by decide : ¬ ((4 : Int) = 0))]
  · rw [accV_bad hk] at HF ⊢
    rw [if_pos hk]
    simp only [if_neg hk]
    exact (astore_fault _ _ k va v _ w (crS g gb n tl) (fun W => CoresAt W g gb cap n tl (accK n K N m k va)) hk (fun j hj => hC.lt hj) (fun W W' h hm => h.mod hm fun j hj e => by have := hC.lt hj; have e' : j = w.heap.size := e; omega) HF).mono fun e w' h => ⟨h.1, h.2.1, hM.crS hC h.2.2, h.2.2.mono fun j hj => .inl (.inl hj)⟩
/-- Loads and stores without cores or without memory. -/
theorem aload_nil (q : Option Addr) (k va : Int) (w : World) (h0 : 0 ≤ va) (h1 : va < 32768) (h2 : va % 8 = 0) :
    Calls Try.prog 28 #[.pointer none, .pointer q, .int .i64 k, .int .u64 va] w fun e w' => e = .returned (.tuple #[.int .u64 0, .agg (fltA 3 va false)]) ∧ Below w.heap.size w w' :=
  (aload_fault none q k va 3 w (fun _ => False) (fun _ => True) (by decide) (fun _ h => h.elim) (fun _ _ h _ => h) (fun W _ => (afind_nil q k va false W h0 h1 h2).mono fun _ _ h => ⟨h.1, trivial, Mod.of_below h.2 _⟩)).mono
    fun _ _ h => ⟨h.1, h.2.2.below (Nat.le_refl _) (fun _ h => h.elim)⟩
theorem astore_memnil (g gb cap n : Nat) (tl : Nat → Nat) (K : Nat → Core) (i : Nat) (va v : Int) (w : World) (hC : CoresAt w g gb cap n tl K) (hi : i < n) (h0 : 0 ≤ va) (h1 : va < 32768) (h2 : va % 8 = 0) :
    Calls Try.prog 27 #[.pointer (some ⟨g, 0, none⟩), .pointer none, .int .i64 i, .int .u64 va, .int .u64 v] w fun e w' => e = .returned (.agg (fltA 3 va true)) ∧ Below w.heap.size w w' :=
  (astore_fault (some ⟨g, 0, none⟩) none i va v 3 w (fun _ => False) (fun _ => True) (by decide) (fun _ h => h.elim) (fun _ _ h _ => h) (fun W hb => (afind_idle none g gb cap n tl K i va true W (hC.on hb) h0 h1 h2 hi (.inl rfl)).mono fun _ _ h => ⟨h.1, trivial, Mod.of_below h.2 _⟩)).mono
    fun _ _ h => ⟨h.1, h.2.2.below (Nat.le_refl _) (fun _ h => h.elim)⟩
end Go.Proofs.Ytlfenakabedmfaa
