/- A cache of translations: its cells, its iterator, New and Evict. -/
import Derived.Test.YtjnnimdgmcpjoaaIter
import Derived.WalkLawsBesides
import Derived.WalkSpells
import Derived.WalkMore
import Derived.BigQuiet
import Derived.Sort.BigQuietIn
import Derived.Test.YtjnnimdgmcpjoaaHeld
namespace Go.Proofs.Ytjnnimdgmcpjoaa
open Go.RowKit Go.Shelf
attribute [local go_sem] Oper.semAt_some
/-- A translation. -/
structure Tr where
  sp : Int
  pg : Int
  fr : Int
  rd : Bool
  wr : Bool
deriving DecidableEq
instance : Inhabited Tr := ⟨⟨0, 0, 0, false, false⟩⟩
def Tr.zero : Tr := ⟨0, 0, 0, false, false⟩
def Tr.row (x : Tr) : Array Value := #[.int .i64 x.sp, .int .i64 x.pg, .int .i64 x.fr, .bool x.rd, .bool x.wr]
/-- What a cache has: eight ways, two a set; which way of a set is due. -/
structure Cache where
  way : Nat → Tr
  due : Nat → Int
def Cache.empty : Cache := ⟨fun _ => Tr.zero, fun _ => 0⟩
def Cache.put (c : Cache) (i : Nat) (y : Tr) : Cache := ⟨fun j => if j = i then y else c.way j, c.due⟩
def Cache.setDue (c : Cache) (s : Nat) (d : Int) : Cache := ⟨c.way, fun j => if j = s then d else c.due j⟩
/-- Where a way lies. -/
def pos (i : Nat) : Nat := i / 2 * 11 + i % 2 * 5
theorem pos_due (i s : Nat) : ¬ (pos i ≤ s * 11 + 10 ∧ s * 11 + 10 < pos i + 5) := by
  unfold pos
  rcases Nat.mod_two_eq_zero_or_one i with h | h <;> omega
theorem pos_far {i j f : Nat} (hf : f < 5) (h : j ≠ i) : ¬ (pos i ≤ pos j + f ∧ pos j + f < pos i + 5) := by
  unfold pos
  rcases Nat.mod_two_eq_zero_or_one i with h1 | h1 <;> rcases Nat.mod_two_eq_zero_or_one j with h2 | h2 <;> omega
theorem pos_not_due {j f : Nat} (hf : f < 5) (s : Nat) : s * 11 + 10 ≠ pos j + f := by
  unfold pos
  rcases Nat.mod_two_eq_zero_or_one j with h2 | h2 <;> omega
def TlbAt (w : World) (g : Nat) (c : Cache) : Prop := ∃ cs : Array Value, Blk w g 157 cs ∧ cs.size = 44 ∧ (∀ i, i < 8 → ∀ f, f < 5 → cs[pos i + f]? = (c.way i).row[f]?) ∧ ∀ s, s < 4 → cs[s * 11 + 10]? = some (.int .i64 (c.due s))
section
variable {w w' : World} {g : Nat} {c : Cache}
theorem TlbAt.lt (h : TlbAt w g c) : g < w.heap.size := by obtain ⟨cs, hb, _⟩ := h; exact hb.lt
theorem TlbAt.same (h : TlbAt w g c) (hs : w'.heap[g]? = w.heap[g]?) : TlbAt w' g c := by obtain ⟨cs, hb, r⟩ := h; exact ⟨cs, hb.same hs, r⟩
theorem TlbAt.skips {B : Nat} (h : TlbAt w g c) (hs : Skips B w w') : TlbAt w' g c := by obtain ⟨cs, hb, r⟩ := h; exact ⟨cs, hs.blk hb, r⟩
theorem TlbAt.below {B : Nat} (h : TlbAt w g c) (hb : Below B w w') (h1 : g < B) : TlbAt w' g c := h.same (hb.block g h1)
theorem TlbAt.mod {S : Nat → Prop} (h : TlbAt w g c) (hm : Mod S w w') (h1 : ¬ S g) : TlbAt w' g c := h.same (hm.block g h.lt h1)
theorem TlbAt.drew (h : TlbAt w g c) : TlbAt w.drew g c := h.same rfl
theorem TlbAt.cell (h : TlbAt w g c) (i : Nat) (hi : i < 8) : w.cell? ⟨g, pos i, none⟩ = some (.int .i64 (c.way i).sp) ∧ w.cell? ⟨g, pos i + 1, none⟩ = some (.int .i64 (c.way i).pg) ∧ w.cell? ⟨g, pos i + 2, none⟩ = some (.int .i64 (c.way i).fr) ∧
    w.cell? ⟨g, pos i + 3, none⟩ = some (.bool (c.way i).rd) ∧ w.cell? ⟨g, pos i + 4, none⟩ = some (.bool (c.way i).wr) := by
  obtain ⟨cs, hb, _, hc, _⟩ := h
  exact ⟨(hb.cell _).trans (hc i hi 0 (by decide)), (hb.cell _).trans (hc i hi 1 (by decide)), (hb.cell _).trans (hc i hi 2 (by decide)), (hb.cell _).trans (hc i hi 3 (by decide)), (hb.cell _).trans (hc i hi 4 (by decide))⟩
theorem TlbAt.due_ (h : TlbAt w g c) (s : Nat) (hs : s < 4) : w.cell? ⟨g, s * 11 + 10, none⟩ = some (.int .i64 (c.due s)) := by
  obtain ⟨cs, hb, _, _, hd⟩ := h
  exact (hb.cell _).trans (hd s hs)
theorem TlbAt.frozen (h : TlbAt w g c) (j : Nat) : w.frozen? ⟨g, j, none⟩ = false := by
  obtain ⟨cs, hb, _⟩ := h
  exact hb.frozen j
theorem set5_get (cs : Array Value) (p : Nat) (v0 v1 v2 v3 v4 : Value) (hp : p + 5 ≤ cs.size) (q : Nat) :
    (((((cs.setIfInBounds p v0).setIfInBounds (p + 1) v1).setIfInBounds (p + 2) v2).setIfInBounds (p + 3) v3).setIfInBounds (p + 4) v4)[q]? = if p ≤ q ∧ q < p + 5 then #[v0, v1, v2, v3, v4][q - p]? else cs[q]? := by
  by_cases h : p ≤ q ∧ q < p + 5
  · rw [if_pos h]
    obtain ⟨j, rfl⟩ : ∃ j, q = p + j := ⟨q - p, by omega⟩
    have hj : j < 5 := by omega
    rw [Nat.add_sub_cancel_left]
    simp only [Array.getElem?_setIfInBounds, Array.size_setIfInBounds]
    match j, hj with
    | 0, _ => simp; omega
    | 1, _ => simp; omega
    | 2, _ => simp; omega
    | 3, _ => simp; omega
    | 4, _ => simp; omega
  · rw [if_neg h]
    rw [Array.getElem?_setIfInBounds_ne (by omega), Array.getElem?_setIfInBounds_ne (by omega), Array.getElem?_setIfInBounds_ne (by omega), Array.getElem?_setIfInBounds_ne (by omega), Array.getElem?_setIfInBounds_ne (by omega)]
/-- The world in which a translation has been stored at a place. -/
def stored5 (w : World) (g p : Nat) (y : Tr) : World :=
  ((((w.setCell ⟨g, p, none⟩ (.int .i64 y.sp)).setCell ⟨g, p + 1, none⟩ (.int .i64 y.pg)).setCell ⟨g, p + 2, none⟩ (.int .i64 y.fr)).setCell ⟨g, p + 3, none⟩ (.bool y.rd)).setCell ⟨g, p + 4, none⟩ (.bool y.wr)
theorem TlbAt.put (h : TlbAt w g c) (i : Nat) (hi : i < 8) (y : Tr) : TlbAt (stored5 w g (pos i) y) g (c.put i y) := by
  obtain ⟨cs, hb, hs, hc, hd⟩ := h
  have hp : pos i + 5 ≤ cs.size := by unfold pos; omega
  refine ⟨_, ((((hb.set_ (pos i) _).set_ (pos i + 1) _).set_ (pos i + 2) _).set_ (pos i + 3) _).set_ (pos i + 4) _, by simpa using hs, fun j hj f hf => ?_, fun s hs4 => ?_⟩
  · rw [set5_get cs (pos i) _ _ _ _ _ hp]
    by_cases e : j = i
    · subst e
      rw [if_pos (by omega), Nat.add_sub_cancel_left]
      show _ = (if j = j then y else c.way j).row[f]?
      rw [if_pos rfl]
      rfl
    · rw [if_neg (pos_far hf e)]
      simp only [Cache.put, if_neg e]
      exact hc j hj f hf
  · rw [set5_get cs (pos i) _ _ _ _ _ hp, if_neg (pos_due i s)]
    exact hd s hs4
theorem TlbAt.setDue (h : TlbAt w g c) (s : Nat) (hs : s < 4) (d : Int) : TlbAt (w.setCell ⟨g, s * 11 + 10, none⟩ (.int .i64 d)) g (c.setDue s d) := by
  obtain ⟨cs, hb, hz, hc, hd⟩ := h
  refine ⟨_, hb.set_ _ _, by simpa using hz, fun j hj f hf => ?_, fun t ht => ?_⟩
  · rw [Array.getElem?_setIfInBounds_ne (pos_not_due hf s)]
    exact hc j hj f hf
  · by_cases e : t = s
    · subst e
      rw [Array.getElem?_setIfInBounds_self, if_pos (by omega)]
      simp [Cache.setDue]
    · rw [Array.getElem?_setIfInBounds_ne (by omega)]
      simp only [Cache.setDue, if_neg e]
      exact hd t ht
theorem stored5_mod {S : Nat → Prop} {a : World} (h : Mod S a w) (hg : S g ∨ a.heap.size ≤ g) (p : Nat) (y : Tr) : Mod S a (stored5 w g p y) :=
  ((((h.setCell (p := ⟨g, p, none⟩) hg _).setCell (p := ⟨g, p + 1, none⟩) hg _).setCell (p := ⟨g, p + 2, none⟩) hg _).setCell (p := ⟨g, p + 3, none⟩) hg _).setCell (p := ⟨g, p + 4, none⟩) hg _
theorem stored5_keeps {a : World} (h : KeepsOthers a w) (g p : Nat) (y : Tr) : KeepsOthers a (stored5 w g p y) := keeps_set (keeps_set (keeps_set (keeps_set (keeps_set h))))
end
def zeros44 : Array Value := #[.int .i64 0, .int .i64 0, .int .i64 0, .bool false, .bool false, .int .i64 0, .int .i64 0, .int .i64 0, .bool false, .bool false, .int .i64 0, .int .i64 0, .int .i64 0, .int .i64 0, .bool false, .bool false, .int .i64 0, .int .i64 0, .int .i64 0, .bool false, .bool false, .int .i64 0, .int .i64 0, .int .i64 0, .int .i64 0, .bool false, .bool false, .int .i64 0, .int .i64 0, .int .i64 0, .bool false, .bool false, .int .i64 0, .int .i64 0, .int .i64 0, .int .i64 0, .bool false, .bool false, .int .i64 0, .int .i64 0, .int .i64 0, .bool false, .bool false, .int .i64 0]
theorem zeros44_way : ∀ i, i < 8 → ∀ f, f < 5 → zeros44[pos i + f]? = (Cache.empty.way i).row[f]? := fun i hi f hf => by
  match i, hi with
  | 0, _ | 1, _ | 2, _ | 3, _ | 4, _ | 5, _ | 6, _ | 7, _ =>
    match f, hf with
    | 0, _ | 1, _ | 2, _ | 3, _ | 4, _ => rfl
theorem zeros44_due : ∀ s, s < 4 → zeros44[s * 11 + 10]? = some (.int .i64 (Cache.empty.due s)) := fun s hs => by
  match s, hs with
  | 0, _ | 1, _ | 2, _ | 3, _ => rfl
set_option maxHeartbeats 1000000 in
theorem tnew_any (w : World) : Calls Try.prog 44 #[] w fun e w' => e = .returned (.pointer (some ⟨w.heap.size, 0, none⟩)) ∧ TlbAt w' w.heap.size Cache.empty ∧ Below w.heap.size w w' := by
  go_enter Try.func44, Try.ntmps44
  go_wp2
  go_ret
  exact ⟨rfl, ⟨zeros44, Blk.new _ _ _, rfl, zeros44_way, zeros44_due⟩, (Below.refl _ _).alloc (Nat.le_refl _) _⟩
set_option maxHeartbeats 1000000 in
theorem evict_nil (s k : Int) (w : World) : Calls Try.prog 48 #[.pointer none, .int .i64 s, .int .i64 k] w fun e w' => e = .returned (.bool false) ∧ w = w' := by
  go_enter Try.func48, Try.ntmps48
  go_wp2
  go_ret
  exact ⟨rfl, rfl⟩
def mayEvict (s k : Int) : Prop := 0 ≤ s ∧ s < 4 ∧ 0 ≤ k ∧ k < 2
set_option maxHeartbeats 1000000 in
theorem evict_bad (g : Nat) (s k : Int) (w : World) (h : ¬ mayEvict s k) : Calls Try.prog 48 #[.pointer (some ⟨g, 0, none⟩), .int .i64 s, .int .i64 k] w fun e w' => e = .returned (.bool false) ∧ w = w' := by
  unfold mayEvict at h
  by_cases h1 : s < 0
  · clear h
    go_enter Try.func48, Try.ntmps48
    go_wp2
    go_ret
    exact ⟨rfl, rfl⟩
  by_cases h2 : 4 ≤ s
  · clear h
    go_enter Try.func48, Try.ntmps48
    go_wp2
    go_ret
    exact ⟨rfl, rfl⟩
  by_cases h3 : k < 0
  · clear h
    go_enter Try.func48, Try.ntmps48
    go_wp2
    go_ret
    exact ⟨rfl, rfl⟩
  have h4 : 2 ≤ k := by omega
  clear h
  go_enter Try.func48, Try.ntmps48
  go_wp2
  go_ret
  exact ⟨rfl, rfl⟩
theorem pos_of (s k : Nat) (h : k < 2) : pos (2 * s + k) = s * 11 + k * 5 := by unfold pos; omega
set_option maxHeartbeats 1000000 in
theorem evict_in (g s k : Nat) (c : Cache) (w : World) (h : TlbAt w g c) (hs : s < 4) (hk : k < 2) : Calls Try.prog 48 #[.pointer (some ⟨g, 0, none⟩), .int .i64 s, .int .i64 k] w fun e w' =>
    e = .returned (.bool ((c.way (2 * s + k)).sp != 0)) ∧ TlbAt w' g (c.put (2 * s + k) Tr.zero) ∧ Mod (· = g) w w' := by
  obtain ⟨c0, c1, c2, c3, c4⟩ := h.cell (2 * s + k) (by omega)
  have f0 := h.frozen (pos (2 * s + k))
  have f1 := h.frozen (pos (2 * s + k) + 1)
  have f2 := h.frozen (pos (2 * s + k) + 2)
  have f3 := h.frozen (pos (2 * s + k) + 3)
  have f4 := h.frozen (pos (2 * s + k) + 4)
  have hput := h.put (2 * s + k) (by omega) Tr.zero
  have hmod := stored5_mod (Mod.refl (· = g) w) (.inl rfl) (pos (2 * s + k)) Tr.zero (g := g)
  unfold stored5 at hput hmod
  rw [pos_of s k hk] at *
  have HT := hide hput
  have HMD := hide hmod
  clear h hput hmod
  go_enter Try.func48, Try.ntmps48
  go_wp2
  go_ret
  exact ⟨rfl, HT.out, HMD.out⟩
/-- What evicting answers and leaves. -/
def evictB (c : Cache) (s k : Int) : Bool := if 0 ≤ s ∧ s < 4 ∧ 0 ≤ k ∧ k < 2 then ((c.way (2 * s.toNat + k.toNat)).sp != 0) else false
def evictC (c : Cache) (s k : Int) : Cache := if 0 ≤ s ∧ s < 4 ∧ 0 ≤ k ∧ k < 2 then c.put (2 * s.toNat + k.toNat) Tr.zero else c
theorem evict_any (g : Nat) (s k : Int) (c : Cache) (w : World) (h : TlbAt w g c) : Calls Try.prog 48 #[.pointer (some ⟨g, 0, none⟩), .int .i64 s, .int .i64 k] w fun e w' =>
    e = .returned (.bool (evictB c s k)) ∧ TlbAt w' g (evictC c s k) ∧ Mod (· = g) w w' := by
  unfold evictB evictC
  by_cases hm : 0 ≤ s ∧ s < 4 ∧ 0 ≤ k ∧ k < 2
  · rw [if_pos hm, if_pos hm]
    obtain ⟨s, rfl⟩ := Int.eq_ofNat_of_zero_le hm.1
    obtain ⟨k, rfl⟩ := Int.eq_ofNat_of_zero_le hm.2.2.1
    exact evict_in g s k c w h (by omega) (by omega)
  · rw [if_neg hm, if_neg hm]
    refine (evict_bad g s k w hm).mono ?_
    rintro e w' ⟨rfl, rfl⟩
    exact ⟨rfl, h, Mod.refl _ _⟩
end Go.Proofs.Ytjnnimdgmcpjoaa
