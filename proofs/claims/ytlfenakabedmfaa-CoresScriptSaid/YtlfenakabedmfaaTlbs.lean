/- A cache of translations: its cells, its iterator, New and Evict. The iterator over the ways of a cache that are not empty; Find. The walk of a cache's Find. The walk of a cache's All. The walks of a cache's drop, DropPage, DropSpace, DropAll. The walk of a cache's Fill. -/
import Derived.Test.YtlfenakabedmfaaIter
import Derived.WalkLawsBesides
import Derived.WalkSpells
import Derived.WalkMore
import Derived.BigQuiet
import Derived.Sort.BigQuietIn
import Derived.Test.YtlfenakabedmfaaHeld
import Derived.Deep.AppendLies
import Derived.LaidEqlPtr
namespace Go.Proofs.Ytlfenakabedmfaa
open Go.RowKit Go.Shelf
attribute [local go_sem] Oper.semAt_some
/-- A translation. -/
structure Tr where
  sp : Int
  pg : Int
  fr : Int
  rd : Bool
  wr : Bool
deriving DecidableEq
instance : Inhabited Tr := ⟨⟨0, 0, 0, false, false⟩⟩
def Tr.zero : Tr := ⟨0, 0, 0, false, false⟩
def Tr.row (x : Tr) : Array Value := #[.int .i64 x.sp, .int .i64 x.pg, .int .i64 x.fr, .bool x.rd, .bool x.wr]
/-- What a cache has: eight ways, two a set; which way of a set is due. -/
structure Cache where
  way : Nat → Tr
  due : Nat → Int
def Cache.empty : Cache := ⟨fun _ => Tr.zero, fun _ => 0⟩
def Cache.put (c : Cache) (i : Nat) (y : Tr) : Cache := ⟨fun j => if j = i then y else c.way j, c.due⟩
def Cache.setDue (c : Cache) (s : Nat) (d : Int) : Cache := ⟨c.way, fun j => if j = s then d else c.due j⟩
/-- Where a way lies. -/
def pos (i : Nat) : Nat := i / 2 * 11 + i % 2 * 5
theorem pos_due (i s : Nat) : ¬ (pos i ≤ s * 11 + 10 ∧ s * 11 + 10 < pos i + 5) := by
  unfold pos
  rcases Nat.mod_two_eq_zero_or_one i with h | h <;> omega
theorem pos_far {i j f : Nat} (hf : f < 5) (h : j ≠ i) : ¬ (pos i ≤ pos j + f ∧ pos j + f < pos i + 5) := by
  unfold pos
  rcases Nat.mod_two_eq_zero_or_one i with h1 | h1 <;> rcases Nat.mod_two_eq_zero_or_one j with h2 | h2 <;> omega
theorem pos_not_due {j f : Nat} (hf : f < 5) (s : Nat) : s * 11 + 10 ≠ pos j + f := by
  unfold pos
  rcases Nat.mod_two_eq_zero_or_one j with h2 | h2 <;> omega
def TlbAt (w : World) (g : Nat) (c : Cache) : Prop := ∃ cs : Array Value, Blk w g 157 cs ∧ cs.size = 44 ∧ (∀ i, i < 8 → ∀ f, f < 5 → cs[pos i + f]? = (c.way i).row[f]?) ∧ ∀ s, s < 4 → cs[s * 11 + 10]? = some (.int .i64 (c.due s))
section
variable {w w' : World} {g : Nat} {c : Cache}
theorem TlbAt.lt (h : TlbAt w g c) : g < w.heap.size := by obtain ⟨cs, hb, _⟩ := h; exact hb.lt
theorem TlbAt.same (h : TlbAt w g c) (hs : w'.heap[g]? = w.heap[g]?) : TlbAt w' g c := by obtain ⟨cs, hb, r⟩ := h; exact ⟨cs, hb.same hs, r⟩
theorem TlbAt.skips {B : Nat} (h : TlbAt w g c) (hs : Skips B w w') : TlbAt w' g c := by obtain ⟨cs, hb, r⟩ := h; exact ⟨cs, hs.blk hb, r⟩
theorem TlbAt.below {B : Nat} (h : TlbAt w g c) (hb : Below B w w') (h1 : g < B) : TlbAt w' g c := h.same (hb.block g h1)
theorem TlbAt.mod {S : Nat → Prop} (h : TlbAt w g c) (hm : Mod S w w') (h1 : ¬ S g) : TlbAt w' g c := h.same (hm.block g h.lt h1)
theorem TlbAt.drew (h : TlbAt w g c) : TlbAt w.drew g c := h.same rfl
theorem TlbAt.cell (h : TlbAt w g c) (i : Nat) (hi : i < 8) : w.cell? ⟨g, pos i, none⟩ = some (.int .i64 (c.way i).sp) ∧ w.cell? ⟨g, pos i + 1, none⟩ = some (.int .i64 (c.way i).pg) ∧ w.cell? ⟨g, pos i + 2, none⟩ = some (.int .i64 (c.way i).fr) ∧
    w.cell? ⟨g, pos i + 3, none⟩ = some (.bool (c.way i).rd) ∧ w.cell? ⟨g, pos i + 4, none⟩ = some (.bool (c.way i).wr) := by
  obtain ⟨cs, hb, _, hc, _⟩ := h
  exact ⟨(hb.cell _).trans (hc i hi 0 (by decide)), (hb.cell _).trans (hc i hi 1 (by decide)), (hb.cell _).trans (hc i hi 2 (by decide)), (hb.cell _).trans (hc i hi 3 (by decide)), (hb.cell _).trans (hc i hi 4 (by decide))⟩
theorem TlbAt.due_ (h : TlbAt w g c) (s : Nat) (hs : s < 4) : w.cell? ⟨g, s * 11 + 10, none⟩ = some (.int .i64 (c.due s)) := by
  obtain ⟨cs, hb, _, _, hd⟩ := h
  exact (hb.cell _).trans (hd s hs)
theorem TlbAt.frozen (h : TlbAt w g c) (j : Nat) : w.frozen? ⟨g, j, none⟩ = false := by
  obtain ⟨cs, hb, _⟩ := h
  exact hb.frozen j
theorem set5_get (cs : Array Value) (p : Nat) (v0 v1 v2 v3 v4 : Value) (hp : p + 5 ≤ cs.size) (q : Nat) :
    (((((cs.setIfInBounds p v0).setIfInBounds (p + 1) v1).setIfInBounds (p + 2) v2).setIfInBounds (p + 3) v3).setIfInBounds (p + 4) v4)[q]? = if p ≤ q ∧ q < p + 5 then #[v0, v1, v2, v3, v4][q - p]? else cs[q]? := by
  by_cases h : p ≤ q ∧ q < p + 5
  · rw [if_pos h]
    obtain ⟨j, rfl⟩ : ∃ j, q = p + j := ⟨q - p, by omega⟩
    have hj : j < 5 := by omega
    rw [Nat.add_sub_cancel_left]
    simp only [Array.getElem?_setIfInBounds, Array.size_setIfInBounds]
    match j, hj with
    | 0, _ => simp; omega
    | 1, _ => simp; omega
    | 2, _ => simp; omega
    | 3, _ => simp; omega
    | 4, _ => simp; omega
  · rw [if_neg h]
    rw [Array.getElem?_setIfInBounds_ne (by omega), Array.getElem?_setIfInBounds_ne (by omega), Array.getElem?_setIfInBounds_ne (by omega), Array.getElem?_setIfInBounds_ne (by omega), Array.getElem?_setIfInBounds_ne (by omega)]
/-- The world in which a translation has been stored at a place. -/
def stored5 (w : World) (g p : Nat) (y : Tr) : World :=
  ((((w.setCell ⟨g, p, none⟩ (.int .i64 y.sp)).setCell ⟨g, p + 1, none⟩ (.int .i64 y.pg)).setCell ⟨g, p + 2, none⟩ (.int .i64 y.fr)).setCell ⟨g, p + 3, none⟩ (.bool y.rd)).setCell ⟨g, p + 4, none⟩ (.bool y.wr)
theorem TlbAt.put (h : TlbAt w g c) (i : Nat) (hi : i < 8) (y : Tr) : TlbAt (stored5 w g (pos i) y) g (c.put i y) := by
  obtain ⟨cs, hb, hs, hc, hd⟩ := h
  have hp : pos i + 5 ≤ cs.size := by unfold pos; omega
  refine ⟨_, ((((hb.set_ (pos i) _).set_ (pos i + 1) _).set_ (pos i + 2) _).set_ (pos i + 3) _).set_ (pos i + 4) _, by simpa using hs, fun j hj f hf => ?_, fun s hs4 => ?_⟩
  · rw [set5_get cs (pos i) _ _ _ _ _ hp]
    by_cases e : j = i
    · subst e
      rw [if_pos (by omega), Nat.add_sub_cancel_left]
      show _ = (if j = j then y else c.way j).row[f]?
      rw [if_pos rfl]
      rfl
    · rw [if_neg (pos_far hf e)]
      simp only [Cache.put, if_neg e]
      exact hc j hj f hf
  · rw [set5_get cs (pos i) _ _ _ _ _ hp, if_neg (pos_due i s)]
    exact hd s hs4
theorem TlbAt.setDue (h : TlbAt w g c) (s : Nat) (hs : s < 4) (d : Int) : TlbAt (w.setCell ⟨g, s * 11 + 10, none⟩ (.int .i64 d)) g (c.setDue s d) := by
  obtain ⟨cs, hb, hz, hc, hd⟩ := h
  refine ⟨_, hb.set_ _ _, by simpa using hz, fun j hj f hf => ?_, fun t ht => ?_⟩
  · rw [Array.getElem?_setIfInBounds_ne (pos_not_due hf s)]
    exact hc j hj f hf
  · by_cases e : t = s
    · subst e
      rw [Array.getElem?_setIfInBounds_self, if_pos (by omega)]
      simp [Cache.setDue]
    · rw [Array.getElem?_setIfInBounds_ne (by omega)]
      simp only [Cache.setDue, if_neg e]
      exact hd t ht
theorem stored5_mod {S : Nat → Prop} {a : World} (h : Mod S a w) (hg : S g ∨ a.heap.size ≤ g) (p : Nat) (y : Tr) : Mod S a (stored5 w g p y) :=
  ((((h.setCell (p := ⟨g, p, none⟩) hg _).setCell (p := ⟨g, p + 1, none⟩) hg _).setCell (p := ⟨g, p + 2, none⟩) hg _).setCell (p := ⟨g, p + 3, none⟩) hg _).setCell (p := ⟨g, p + 4, none⟩) hg _
theorem stored5_keeps {a : World} (h : KeepsOthers a w) (g p : Nat) (y : Tr) : KeepsOthers a (stored5 w g p y) := keeps_set (keeps_set (keeps_set (keeps_set (keeps_set h))))
end
def zeros44 : Array Value := #[.int .i64 0, .int .i64 0, .int .i64 0, .bool false, .bool false, .int .i64 0, .int .i64 0, .int .i64 0, .bool false, .bool false, .int .i64 0, .int .i64 0, .int .i64 0, .int .i64 0, .bool false, .bool false, .int .i64 0, .int .i64 0, .int .i64 0, .bool false, .bool false, .int .i64 0, .int .i64 0, .int .i64 0, .int .i64 0, .bool false, .bool false, .int .i64 0, .int .i64 0, .int .i64 0, .bool false, .bool false, .int .i64 0, .int .i64 0, .int .i64 0, .int .i64 0, .bool false, .bool false, .int .i64 0, .int .i64 0, .int .i64 0, .bool false, .bool false, .int .i64 0]
theorem zeros44_way : ∀ i, i < 8 → ∀ f, f < 5 → zeros44[pos i + f]? = (Cache.empty.way i).row[f]? := fun i hi f hf => by
  match i, hi with
  | 0, _ | 1, _ | 2, _ | 3, _ | 4, _ | 5, _ | 6, _ | 7, _ =>
    match f, hf with
    | 0, _ | 1, _ | 2, _ | 3, _ | 4, _ => rfl
theorem zeros44_due : ∀ s, s < 4 → zeros44[s * 11 + 10]? = some (.int .i64 (Cache.empty.due s)) := fun s hs => by
  match s, hs with
  | 0, _ | 1, _ | 2, _ | 3, _ => rfl
set_option maxHeartbeats 1000000 in
theorem tnew_any (w : World) : Calls Try.prog 44 #[] w fun e w' => e = .returned (.pointer (some ⟨w.heap.size, 0, none⟩)) ∧ TlbAt w' w.heap.size Cache.empty ∧ Below w.heap.size w w' := by
  go_enter Try.func44, Try.ntmps44
  go_wp2
  go_ret
  exact ⟨rfl, ⟨zeros44, Blk.new _ _ _, rfl, zeros44_way, zeros44_due⟩, (Below.refl _ _).alloc (Nat.le_refl _) _⟩
set_option maxHeartbeats 1000000 in
theorem evict_nil (s k : Int) (w : World) : Calls Try.prog 48 #[.pointer none, .int .i64 s, .int .i64 k] w fun e w' => e = .returned (.bool false) ∧ w = w' := by
  go_enter Try.func48, Try.ntmps48
  go_wp2
  go_ret
  exact ⟨rfl, rfl⟩
def mayEvict (s k : Int) : Prop := 0 ≤ s ∧ s < 4 ∧ 0 ≤ k ∧ k < 2
set_option maxHeartbeats 1000000 in
theorem evict_bad (g : Nat) (s k : Int) (w : World) (h : ¬ mayEvict s k) : Calls Try.prog 48 #[.pointer (some ⟨g, 0, none⟩), .int .i64 s, .int .i64 k] w fun e w' => e = .returned (.bool false) ∧ w = w' := by
  unfold mayEvict at h
  by_cases h1 : s < 0
  · clear h
    go_enter Try.func48, Try.ntmps48
    go_wp2
    go_ret
    exact ⟨rfl, rfl⟩
  by_cases h2 : 4 ≤ s
  · clear h
    go_enter Try.func48, Try.ntmps48
    go_wp2
    go_ret
    exact ⟨rfl, rfl⟩
  by_cases h3 : k < 0
  · clear h
    go_enter Try.func48, Try.ntmps48
    go_wp2
    go_ret
    exact ⟨rfl, rfl⟩
  have h4 : 2 ≤ k := by omega
  clear h
  go_enter Try.func48, Try.ntmps48
  go_wp2
  go_ret
  exact ⟨rfl, rfl⟩
theorem pos_of (s k : Nat) (h : k < 2) : pos (2 * s + k) = s * 11 + k * 5 := by unfold pos; omega
set_option maxHeartbeats 1000000 in
theorem evict_in (g s k : Nat) (c : Cache) (w : World) (h : TlbAt w g c) (hs : s < 4) (hk : k < 2) : Calls Try.prog 48 #[.pointer (some ⟨g, 0, none⟩), .int .i64 s, .int .i64 k] w fun e w' =>
    e = .returned (.bool ((c.way (2 * s + k)).sp != 0)) ∧ TlbAt w' g (c.put (2 * s + k) Tr.zero) ∧ Mod (· = g) w w' := by
  obtain ⟨c0, c1, c2, c3, c4⟩ := h.cell (2 * s + k) (by omega)
  have f0 := h.frozen (pos (2 * s + k))
  have f1 := h.frozen (pos (2 * s + k) + 1)
  have f2 := h.frozen (pos (2 * s + k) + 2)
  have f3 := h.frozen (pos (2 * s + k) + 3)
  have f4 := h.frozen (pos (2 * s + k) + 4)
  have hput := h.put (2 * s + k) (by omega) Tr.zero
  have hmod := stored5_mod (Mod.refl (· = g) w) (.inl rfl) (pos (2 * s + k)) Tr.zero (g := g)
  unfold stored5 at hput hmod
  rw [pos_of s k hk] at *
  have HT := hide hput
  have HMD := hide hmod
  clear h hput hmod
  go_enter Try.func48, Try.ntmps48
  go_wp2
  go_ret
  exact ⟨rfl, HT.out, HMD.out⟩
/-- What evicting answers and leaves. -/
def evictB (c : Cache) (s k : Int) : Bool := if 0 ≤ s ∧ s < 4 ∧ 0 ≤ k ∧ k < 2 then ((c.way (2 * s.toNat + k.toNat)).sp != 0) else false
def evictC (c : Cache) (s k : Int) : Cache := if 0 ≤ s ∧ s < 4 ∧ 0 ≤ k ∧ k < 2 then c.put (2 * s.toNat + k.toNat) Tr.zero else c
theorem evict_any (g : Nat) (s k : Int) (c : Cache) (w : World) (h : TlbAt w g c) : Calls Try.prog 48 #[.pointer (some ⟨g, 0, none⟩), .int .i64 s, .int .i64 k] w fun e w' =>
    e = .returned (.bool (evictB c s k)) ∧ TlbAt w' g (evictC c s k) ∧ Mod (· = g) w w' := by
  unfold evictB evictC
  by_cases hm : 0 ≤ s ∧ s < 4 ∧ 0 ≤ k ∧ k < 2
  · rw [if_pos hm, if_pos hm]
    obtain ⟨s, rfl⟩ := Int.eq_ofNat_of_zero_le hm.1
    obtain ⟨k, rfl⟩ := Int.eq_ofNat_of_zero_le hm.2.2.1
    exact evict_in g s k c w h (by omega) (by omega)
  · rw [if_neg hm, if_neg hm]
    refine (evict_bad g s k w hm).mono ?_
    rintro e w' ⟨rfl, rfl⟩
    exact ⟨rfl, h, Mod.refl _ _⟩
end Go.Proofs.Ytlfenakabedmfaa
namespace Go.Proofs.Ytlfenakabedmfaa
open Go.RowKit Go.Shelf
attribute [local go_sem] Oper.semAt_some
/-- The ways below n that are not empty. -/
def vis (c : Cache) (n : Nat) : List Nat := (List.range n).filter fun i => (c.way i).sp != 0
theorem vis_yes {c : Cache} {n : Nat} (h : ((c.way n).sp != 0) = true) : vis c (n + 1) = vis c n ++ [n] := by simp [vis, List.range_succ, List.filter_append, h]
theorem vis_no {c : Cache} {n : Nat} (h : ((c.way n).sp != 0) = false) : vis c (n + 1) = vis c n := by simp [vis, List.range_succ, List.filter_append, h]
theorem mem_vis {c : Cache} {n i : Nat} : i ∈ vis c n ↔ i < n ∧ (c.way i).sp ≠ 0 := by simp [vis]
set_option maxHeartbeats 1000000 in
theorem there_in (F : Fence) (n : Nat) (hF : WideF F Try.prog) (hro : F.round = none) (p : Option Addr) (w : World) :
    CallsIn F n Try.prog 73 #[.pointer p] w fun e w' => e = .returned (.func (.func 89) #[] #[.pointer (some ⟨w.heap.size, 0, none⟩)]) ∧ w' = w.alloc (.cells #[.pointer p] 99) := by
  refine callsIn_of_wp Try.func73 rfl (hF.fn _) ?_ hro
  simp only [Try.ntmps73, List.size_toArray, List.length_cons, List.length_nil, Nat.reduceAdd, Nat.reduceSub, Array.replicate_succ, Array.replicate_zero, List.push_toArray, List.append_toArray, List.nil_append, List.cons_append]
  gi_wp2
  go_ret
  exact ⟨rfl, rfl⟩
/-- What the round of x is told, what it must keep, what has come in the end. -/
def thereG (g : Nat) (c : Cache) (pre : List Nat) (x : Nat) (W : World) : Prop := x < 8 ∧ (c.way x).sp ≠ 0 ∧ pre = vis c x ∧ ∃ c', TlbAt W g c' ∧ c'.way x = c.way x
def thereK (g Bt : Nat) (_ : List Nat) (x : Nat) (W W' : World) : Prop := KeepB (· = Bt) W W' ∧ ∀ c', TlbAt W g c' → ∃ y, TlbAt W' g (c'.put x y)
set_option maxRecDepth 100000 in
set_option maxHeartbeats 4000000 in
theorem there_iter (F : Fence) (n : Nat) (hF : WideF F Try.prog) (hro : F.round = none) (hn : 1 ≤ n) (g Bt : Nat) (c : Cache) (w : World) (hT : TlbAt w g c) (bt : Blk w Bt 99 #[.pointer (some ⟨g, 0, none⟩)]) :
    Iter F n Try.prog 89 #[.pointer (some ⟨Bt, 0, none⟩)] (fun x : Nat => #[.pointer (some ⟨g, pos x, none⟩)]) (thereG g c) (thereK g Bt) (fun xs _ => xs = vis c 8) w := by
  intro l J Jx W hsk hl hJ hJx hY h0
  replace hT := hT.skips hsk
  replace bt := hsk.blk bt
  have c0 := bt.cell 0
  refine callsIn_of_wp Try.func89 rfl (hF.fn _) ?_ hro
  simp only [Try.ntmps89, List.size_toArray, List.length_cons, List.length_nil, Nat.reduceAdd, Nat.reduceSub, Array.replicate_succ, Array.replicate_zero, List.push_toArray, List.append_toArray, List.nil_append, List.cons_append]
  have HF := hide hF
  have HY := hide hY
  have HT := hide hT
  have HBT := hide bt
  clear hF hY hJ hJx hT bt
  gi_wp2
  gi_loopw [7] (fun i wr => ∃ (s : Nat) (c' : Cache), s ≤ 4 ∧ i = .int .i64 s ∧ J (vis c (2 * s)) wr ∧ TlbAt wr g c' ∧ (∀ j, 2 * s ≤ j → c'.way j = c.way j) ∧ Blk wr Bt 99 #[.pointer (some ⟨g, 0, none⟩)]) (fun i _ => 4 - (intOf i).toNat)
  case atStart => exact ⟨0, c, Nat.zero_le _, rfl, h0, HT.out, fun _ _ => rfl, HBT.out⟩
  case round =>
    obtain ⟨s, c', hs, rfl, hj, hT, hc, hb⟩ := hrel
    have HJ := hide hj
    have HT2 := hide hT
    have HC := hide hc
    have HB := hide hb
    clear hj hT hc hb
    obtain ⟨wo, rfl⟩ : ∃ wo : World, wo = wr := ⟨_, rfl⟩
    by_cases hlt : s < 4
    · have i1 : (0 : Int) ≤ (s : Int) := by omega
      have i2 : (s : Int) < 4 := by omega
      have i5 : decide ((s : Int) < 4) = true := decide_eq_true i2
      gi_wp2
      gi_loopw [10] (fun i wr => ∃ (k : Nat) (c' : Cache), k ≤ 2 ∧ i = .int .i64 k ∧ J (vis c (2 * s + k)) wr ∧ TlbAt wr g c' ∧ (∀ j, 2 * s + k ≤ j → c'.way j = c.way j) ∧ Blk wr Bt 99 #[.pointer (some ⟨g, 0, none⟩)]) (fun i _ => 2 - (intOf i).toNat)
      case atStart => exact ⟨0, c', Nat.zero_le _, rfl, HJ.out, HT2.out, HC.out, HB.out⟩
      case round =>
        obtain ⟨k, c2, hk, rfl, hj, hT, hc, hb⟩ := hrel
        have b0 := hb.cell 0
        have HJ3 := hide hj
        have HC3 := hide hc
        have HB3 := hide hb
        by_cases hlk : k < 2
        · have i3 : (0 : Int) ≤ (k : Int) := by omega
          have i4 : (k : Int) < 2 := by omega
          have t0 := (hT.cell (2 * s + k) (by omega)).1
          rw [hc (2 * s + k) (Nat.le_refl _), pos_of s k hlk] at t0
          have HT3 := hide hT
          cases hne : (c.way (2 * s + k)).sp != 0 with
          | true =>
            have HNE := hide hne
            obtain ⟨fn, tmps, assign, body, hy, hR⟩ := HY.out _ (2 * s + k) wr hj ⟨by omega, by simpa using hne, rfl, c2, hT, hc _ (Nat.le_refl _)⟩
            rw [pos_of s k hlk] at hy
            clear hj hT hc hb
            gi_wp2
            refine hR.mono ?_
            rintro e W3 (⟨rfl, hJ3, hk3, hk4⟩ | ⟨rfl, hJx3⟩)
            · obtain ⟨y, hTy⟩ := hk4 _ HT3.out
              have HJ4 := hide hJ3
              have HTY := hide hTy
              have HB4 := hide (hk3.blk HB3.out rfl)
              clear hJ3 hTy hk3 hk4 hR hy hne
              gi_wp2
              go_roundw
              case rel =>
                refine ⟨k + 1, _, by omega, by simp, ?_, HTY.out, fun j hj => ?_, HB4.out⟩
                · rw [← Nat.add_assoc, vis_yes HNE.out]; exact HJ4.out
                · simp only [Cache.put]
                  rw [if_neg (by omega)]
                  exact HC3.out j (by omega)
              case measure => simp [intOf]; omega
            · gi_wp2
              refine bodyPost_ret (results_none rfl _ _ _) rfl ?_
              exact ⟨⟨_, rfl⟩, .inr ⟨_, hJx3⟩⟩
          | false =>
            have HNE := hide hne
            clear hj hT hc hb
            gi_wp2
            refine ⟨fun _ h => (by cases h), ?_⟩
            gi_wp2
            go_roundw
            case rel => exact ⟨k + 1, _, by omega, by simp, by rw [← Nat.add_assoc, vis_no HNE.out]; exact HJ3.out, HT3.out, fun j hj => HC3.out j (by omega), HB3.out⟩
            case measure => simp [intOf]; omega
        · obtain rfl : k = 2 := by omega
          have HT3 := hide hT
          clear hj hT hc hb
          gi_wp2
          go_roundw
          case rel => exact ⟨s + 1, _, by omega, by simp, HJ3.out, HT3.out, fun j hj => HC3.out j (by omega), HB3.out⟩
          case measure => simp [intOf]; omega
    · obtain rfl : s = 4 := by omega
      gi_wp2
      go_end0
      exact ⟨⟨_, rfl⟩, .inl ⟨_, rfl, HJ.out⟩⟩
end Go.Proofs.Ytlfenakabedmfaa
namespace Go.Proofs.Ytlfenakabedmfaa
open Go.RowKit Go.Shelf
attribute [local go_sem] Oper.semAt_some
/-- Is it that page's translation? -/
def hit (c : Cache) (sp pg : Int) (i : Nat) : Bool := (c.way i).sp == sp && (c.way i).pg == pg
def findV (c : Cache) (sp pg : Int) : Option Nat := (vis c 8).find? (hit c sp pg)
def findTr (c : Cache) (sp pg : Int) : Tr := match findV c sp pg with | some i => c.way i | none => Tr.zero
def findOk (c : Cache) (sp pg : Int) : Bool := (findV c sp pg).isSome
theorem vis_split (c : Cache) {x n : Nat} (hx : x < n) (h : (c.way x).sp ≠ 0) : ∃ r, vis c n = vis c x ++ x :: r := by
  induction n with
  | zero => omega
  | succ n ih =>
    by_cases e : x = n
    · subst e
      exact ⟨[], by rw [vis_yes (by simpa using h)]⟩
    · obtain ⟨r, hr⟩ := ih (by omega)
      cases hn : (c.way n).sp != 0 with
      | true => exact ⟨r ++ [n], by rw [vis_yes hn, hr]; simp⟩
      | false => exact ⟨r, by rw [vis_no hn, hr]⟩
theorem findV_hit {c : Cache} {sp pg : Int} {x : Nat} (hx : x < 8) (h0 : (c.way x).sp ≠ 0) (hp : ∀ j ∈ vis c x, hit c sp pg j = false) (hh : hit c sp pg x = true) : findV c sp pg = some x := by
  obtain ⟨r, hr⟩ := vis_split c hx h0
  unfold findV
  rw [hr, List.find?_append, List.find?_eq_none.2 (fun j hj => by simp [hp j hj])]
  simp [hh]
theorem findV_none {c : Cache} {sp pg : Int} (hp : ∀ j ∈ vis c 8, hit c sp pg j = false) : findV c sp pg = none := by
  unfold findV
  exact List.find?_eq_none.2 (fun j hj => by simp [hp j hj])
theorem blk5_set {w : World} {b : Nat} {t : TypeId} {a0 a1 a2 a3 a4 : Value} (h : Blk w b t #[a0, a1, a2, a3, a4]) (y : Tr) : Blk (stored5 w b 0 y) b t y.row :=
  ((((h.set_ 0 (.int .i64 y.sp)).set_ 1 (.int .i64 y.pg)).set_ 2 (.int .i64 y.fr)).set_ 3 (.bool y.rd)).set_ 4 (.bool y.wr)
theorem blk_row {w : World} {b : Nat} {t : TypeId} {y : Tr} (h : Blk w b t y.row) : w.cell? ⟨b, 0, none⟩ = some (.int .i64 y.sp) ∧ w.cell? ⟨b, 1, none⟩ = some (.int .i64 y.pg) ∧ w.cell? ⟨b, 2, none⟩ = some (.int .i64 y.fr) ∧ w.cell? ⟨b, 3, none⟩ = some (.bool y.rd) ∧ w.cell? ⟨b, 4, none⟩ = some (.bool y.wr) :=
  ⟨h.cell 0, h.cell 1, h.cell 2, h.cell 3, h.cell 4⟩
theorem put_self (c : Cache) (x : Nat) : c.put x (c.way x) = c := by
  cases c
  simp only [Cache.put, Cache.mk.injEq, and_true]
  funext j
  split
  · subst_vars; rfl
  · rfl
theorem thereK_same {g Bt : Nat} {pre : List Nat} {x : Nat} {W W' : World} (h : W'.heap = W.heap) : thereK g Bt pre x W W' :=
  ⟨fun k o _ ho => by rw [h]; exact ho, fun c' hc => ⟨c'.way x, by rw [put_self]; exact hc.same (by rw [h])⟩⟩
set_option maxRecDepth 100000 in
set_option maxHeartbeats 4000000 in
theorem find_in_F (F : Fence) (q : Nat) (hF : WideF F Try.prog) (hro : F.round = none) (hq : 3 ≤ q) (g : Nat) (c : Cache) (sp pg : Int) (w : World) (hT : TlbAt w g c) :
    CallsIn F q Try.prog 51 #[.pointer (some ⟨g, 0, none⟩), .int .i64 sp, .int .i64 pg] w fun e w' => e = .returned (.tuple #[.agg (findTr c sp pg).row, .bool (findOk c sp pg)]) ∧ Below w.heap.size w w' := by
  have hlt := hT.lt
  have hq1 : 1 ≤ q := by omega
  have HT := hide hT
  have HF := hide hF
  have hfn := hF.fn
  refine callsIn_of_wp_marks Try.func51 rfl (hF.fn _) ?_ hro
  clear hF hT
  simp only [Try.ntmps51, List.size_toArray, List.length_cons, List.length_nil, Nat.reduceAdd, Nat.reduceSub, Array.replicate_succ, Array.replicate_zero, List.push_toArray, List.append_toArray, List.nil_append, List.cons_append]
  gi_wp2_with (gi_at_call 73; refine (there_in F (q - 1) HF.out hro _ _).mono ?_; rintro e w' ⟨rfl, rfl⟩)
  obtain ⟨W0, hW0⟩ : ∃ W0 : World, (((((w.alloc (.cells #[.int .i64 sp] 3)).alloc (.cells #[.int .i64 pg] 3)).alloc (.cells Tr.zero.row 42)).alloc (.cells #[.bool false] 4)).alloc (.cells #[.pointer (some ⟨g, 0, none⟩)] 99)) = W0 := ⟨_, rfl⟩
  have b0 : Blk W0 w.heap.size 3 #[.int .i64 sp] := by rw [← hW0]; exact ((((Blk.new w _ _).alloc _).alloc _).alloc _).alloc _
  have b1 : Blk W0 (w.heap.size + 1) 3 #[.int .i64 pg] := by
    have h := (((Blk.new (w.alloc (.cells #[.int .i64 sp] 3)) 3 #[.int .i64 pg]).alloc (.cells Tr.zero.row 42)).alloc (.cells #[.bool false] 4)).alloc (.cells #[.pointer (some ⟨g, 0, none⟩)] 99)
    simp only [World.size_alloc] at h
    rw [← hW0]; exact h
  have b2 : Blk W0 (w.heap.size + 1 + 1) 42 Tr.zero.row := by
    have h := ((Blk.new ((w.alloc (.cells #[.int .i64 sp] 3)).alloc (.cells #[.int .i64 pg] 3)) 42 Tr.zero.row).alloc (.cells #[.bool false] 4)).alloc (.cells #[.pointer (some ⟨g, 0, none⟩)] 99)
    simp only [World.size_alloc] at h
    rw [← hW0]; exact h
  have b3 : Blk W0 (w.heap.size + 1 + 1 + 1) 4 #[.bool false] := by
    have h := (Blk.new (((w.alloc (.cells #[.int .i64 sp] 3)).alloc (.cells #[.int .i64 pg] 3)).alloc (.cells Tr.zero.row 42)) 4 #[.bool false]).alloc (.cells #[.pointer (some ⟨g, 0, none⟩)] 99)
    simp only [World.size_alloc] at h
    rw [← hW0]; exact h
  have b4 : Blk W0 (w.heap.size + 1 + 1 + 1 + 1) 99 #[.pointer (some ⟨g, 0, none⟩)] := by
    have h := Blk.new ((((w.alloc (.cells #[.int .i64 sp] 3)).alloc (.cells #[.int .i64 pg] 3)).alloc (.cells Tr.zero.row 42)).alloc (.cells #[.bool false] 4)) 99 #[.pointer (some ⟨g, 0, none⟩)]
    simp only [World.size_alloc] at h
    rw [← hW0]; exact h
  have hb0 : Below w.heap.size w W0 := by rw [← hW0]; exact ((((((Below.refl _ w).alloc (Nat.le_refl _) _).alloc (by simp) _).alloc (by simp; omega) _).alloc (by simp; omega) _).alloc (by simp; omega) _)
  change Code.wpIn _ _ _ _ _ _ (((((w.alloc (.cells #[.int .i64 sp] 3)).alloc (.cells #[.int .i64 pg] 3)).alloc (.cells Tr.zero.row 42)).alloc (.cells #[.bool false] 4)).alloc (.cells #[.pointer (some ⟨g, 0, none⟩)] 99))
  rw [hW0]
  clear hW0
  have hT0 := HT.out.below hb0 hlt
  have hl4 := b4.lt
  refine' wpIn_iter1 hro hq1 (gf := 89) (lb := _) rfl (hfn _) (enters_of Try.func89 (by kernel_rfl) rfl) (there_iter F (q - 1) HF.out hro (by omega) g _ c W0 hT0 b4)
    (fun pre x A B C D h1 h2 h3 => ?hK) (fun _ _ _ _ h hk => ⟨h.1, h.2.1, h.2.2.1, by obtain ⟨c', h1, h2⟩ := h.2.2.2; exact ⟨c', h1.skips hk, h2⟩⟩) (fun _ _ _ h _ => h) (fun _ => rfl)
    (fun pre W => TlbAt W g c ∧ Blk W w.heap.size 3 #[.int .i64 sp] ∧ Blk W (w.heap.size + 1) 3 #[.int .i64 pg] ∧ Blk W (w.heap.size + 1 + 1) 42 Tr.zero.row ∧ Blk W (w.heap.size + 1 + 1 + 1) 4 #[.bool false] ∧ (∀ j ∈ pre, hit c sp pg j = false) ∧ Below w.heap.size w W)
    (fun k _ W => k = .ret ∧ ∃ i, findV c sp pg = some i ∧ Blk W (w.heap.size + 1 + 1) 42 (c.way i).row ∧ Blk W (w.heap.size + 1 + 1 + 1) 4 #[.bool true] ∧ Below w.heap.size w W)
    ?hI ?hIx ?h0 _ ?assign ?body ?done ?stop
  case hK =>
    refine ⟨KeepB.skips (fun k hk => by omega) h1 h2.1 h3, fun c' hc' => ?_⟩
    obtain ⟨y, hy⟩ := h2.2 c' (hc'.skips h1)
    exact ⟨y, hy.skips h3⟩
  case hI => exact fun s A C h hk => ⟨h.1.skips hk, hk.blk h.2.1, hk.blk h.2.2.1, hk.blk h.2.2.2.1, hk.blk h.2.2.2.2.1, h.2.2.2.2.2.1, below_skips h.2.2.2.2.2.2 hk hb0.size (Nat.le_refl _)⟩
  case hIx =>
    rintro k s A C ⟨hk1, i, h1, h2, h3, h4⟩ hk
    exact ⟨hk1, i, h1, hk.blk h2, hk.blk h3, below_skips h4 hk hb0.size (Nat.le_refl _)⟩
  case h0 => exact ⟨hT0, b0, b1, b2, b3, fun j hj => by simp at hj, hb0⟩
  case assign =>
    intro l x W K hK
    gi_wp2
    exact hK
  case body =>
    rintro l pre x W hl hr ⟨hT, hb0', hb1', hb2', hb3', hnot, hB⟩ ⟨hx8, hx0, hpre, _⟩
    obtain ⟨t0, t1, t2, t3, t4⟩ := hT.cell x hx8
    have p0 := hb0'.cell 0
    have p1 := hb1'.cell 0
    have HT2 := hide hT
    have HB2 := hide hb2'
    have HB3 := hide hb3'
    have HN := hide hnot
    have HX := hide hx0
    have HP := hide hpre
    have HR := hide hr
    have HBB := hide hB
    have HB0 := hide hb0'
    have HB1 := hide hb1'
    have hS : (fun w' : World => w'.cell? ⟨g, pos x, none⟩ = some (.int .i64 (c.way x).sp) ∧ w'.cell? ⟨g, pos x + 1, none⟩ = some (.int .i64 (c.way x).pg) ∧ w'.cell? ⟨w.heap.size, 0, none⟩ = some (.int .i64 sp) ∧ w'.cell? ⟨w.heap.size + 1, 0, none⟩ = some (.int .i64 pg)) W.drew := ⟨t0, t1, p0, p1⟩
    clear hT hb0' hb1' hb2' hb3' hnot hx0 hpre hr hB
    gi_wp2
    cases h1 : (c.way x).sp == sp with
    | false =>
      refine wpIn_region_held (S := fun w' => w'.cell? ⟨g, pos x, none⟩ = some (.int .i64 (c.way x).sp) ∧ w'.cell? ⟨g, pos x + 1, none⟩ = some (.int .i64 (c.way x).pg) ∧ w'.cell? ⟨w.heap.size, 0, none⟩ = some (.int .i64 sp) ∧ w'.cell? ⟨w.heap.size + 1, 0, none⟩ = some (.int .i64 pg)) (HF.out.inRound l) (by kernel_rfl) (fun ⟨_, _, h⟩ => h) (by kernel_rfl) hS (fun hS => ?_)
      refine' wpAnyH_take (i := 0) (oi := ⟨some 12, _, _, _, _, _⟩) (v := _) rfl (by kernel_rfl) (by kernel_rfl) (by kernel_rfl) (fun _ _ _ h => h) (Or.inl ⟨by rfl, ?_⟩) hS ?_
      rotate_left
      · intro w hSw
        try dsimp only at hSw
        go_simp
        all_goals with_reducible rfl
      simp only [Act.put, List.setIfInBounds_toArray, List.set_cons_zero, List.set_cons_succ]
      refine' wpAnyH_take (i := 1) (oi := ⟨some 13, _, _, _, _, _⟩) (v := _) rfl (by kernel_rfl) (by kernel_rfl) (by kernel_rfl) (fun _ _ _ h => h) (Or.inl ⟨by rfl, ?_⟩) hS ?_
      rotate_left
      · intro w hSw
        try dsimp only at hSw
        go_simp
        all_goals with_reducible rfl
      simp only [Act.put, List.setIfInBounds_toArray, List.set_cons_zero, List.set_cons_succ]
      refine' wpAnyH_take (i := 2) (oi := ⟨some 14, _, _, _, _, _⟩) (v := _) rfl (by kernel_rfl) (by kernel_rfl) (by kernel_rfl) (fun _ _ _ h => h) (Or.inl ⟨by rfl, ?_⟩) hS ?_
      rotate_left
      · intro w hSw
        try dsimp only at hSw
        go_simp
        all_goals with_reducible rfl
      simp only [Act.put, List.setIfInBounds_toArray, List.set_cons_zero, List.set_cons_succ]
      refine' wpAnyH_take (i := 3) (oi := ⟨some 15, _, _, _, _, _⟩) (v := _) rfl (by kernel_rfl) (by kernel_rfl) (by kernel_rfl) (fun _ _ _ h => h) (Or.inl ⟨by rfl, ?_⟩) hS ?_
      rotate_left
      · intro w hSw
        try dsimp only at hSw
        go_simp
        all_goals with_reducible rfl
      simp only [Act.put, List.setIfInBounds_toArray, List.set_cons_zero, List.set_cons_succ]
      refine' wpAnyH_take (i := 4) (oi := ⟨some 16, _, _, _, _, _⟩) (v := _) rfl (by kernel_rfl) (by kernel_rfl) (by kernel_rfl) (fun _ _ _ h => h) (Or.inl ⟨by rfl, ?_⟩) hS ?_
      rotate_left
      · intro w hSw
        try dsimp only at hSw
        go_simp
        all_goals with_reducible rfl
      simp only [Act.put, List.setIfInBounds_toArray, List.set_cons_zero, List.set_cons_succ]
      refine' wpAnyH_take (i := 5) (oi := ⟨some 17, _, _, _, _, _⟩) (v := _) rfl (by kernel_rfl) (by kernel_rfl) (by kernel_rfl) (fun _ _ _ h => h) (Or.inl ⟨by rfl, ?_⟩) hS ?_
      rotate_left
      · intro w hSw
        try dsimp only at hSw
        go_simp
        all_goals with_reducible rfl
      simp only [Act.put, List.setIfInBounds_toArray, List.set_cons_zero, List.set_cons_succ]
      refine' wpAnyH_take (i := 6) (oi := ⟨some 18, _, _, _, _, _⟩) (v := _) rfl (by kernel_rfl) (by kernel_rfl) (by kernel_rfl) (fun _ _ _ h => h) (Or.inl ⟨by rfl, ?_⟩) hS ?_
      rotate_left
      · intro w hSw
        try dsimp only at hSw
        go_simp
        all_goals with_reducible rfl
      simp only [Act.put, List.setIfInBounds_toArray, List.set_cons_zero, List.set_cons_succ]
      refine wpAnyH_take (i := 7) (oi := ⟨some 19, _, _, _, _, _⟩) (v := undef) rfl (by kernel_rfl) (by kernel_rfl) (by kernel_rfl) (fun _ _ _ h => h) (Or.inr ⟨by rfl, rfl⟩) hS ?_
      simp only [Act.put, List.setIfInBounds_toArray, List.set_cons_zero, List.set_cons_succ]
      refine wpAnyH_take (i := 8) (oi := ⟨some 20, _, _, _, _, _⟩) (v := undef) rfl (by kernel_rfl) (by kernel_rfl) (by kernel_rfl) (fun _ _ _ h => h) (Or.inr ⟨by rfl, rfl⟩) hS ?_
      simp only [Act.put, List.setIfInBounds_toArray, List.set_cons_zero, List.set_cons_succ]
      refine wpAnyH_take (i := 9) (oi := ⟨some 21, _, _, _, _, _⟩) (v := undef) rfl (by kernel_rfl) (by kernel_rfl) (by kernel_rfl) (fun _ _ _ h => h) (Or.inr ⟨by rfl, rfl⟩) hS ?_
      simp only [Act.put, List.setIfInBounds_toArray, List.set_cons_zero, List.set_cons_succ]
      refine wpAnyH_take (i := 10) (oi := ⟨some 22, _, _, _, _, _⟩) (v := undef) rfl (by kernel_rfl) (by kernel_rfl) (by kernel_rfl) (fun _ _ _ h => h) (Or.inr ⟨by rfl, rfl⟩) hS ?_
      simp only [Act.put, List.setIfInBounds_toArray, List.set_cons_zero, List.set_cons_succ]
      refine wpAnyH_take (i := 11) (oi := ⟨some 23, _, _, _, _, _⟩) (v := undef) rfl (by kernel_rfl) (by kernel_rfl) (by kernel_rfl) (fun _ _ _ h => h) (Or.inr ⟨by rfl, rfl⟩) hS ?_
      simp only [Act.put, List.setIfInBounds_toArray, List.set_cons_zero, List.set_cons_succ]
      refine wpAnyH_take (i := 12) (oi := ⟨some 24, _, _, _, _, _⟩) (v := undef) rfl (by kernel_rfl) (by kernel_rfl) (by kernel_rfl) (fun _ _ _ h => h) (Or.inr ⟨by rfl, rfl⟩) hS ?_
      simp only [Act.put, List.setIfInBounds_toArray, List.set_cons_zero, List.set_cons_succ]
      refine' wpAnyH_take (i := 13) (oi := ⟨some 25, _, _, _, _, _⟩) (v := _) rfl (by kernel_rfl) (by kernel_rfl) (by kernel_rfl) (fun _ _ _ h => h) (Or.inl ⟨by rfl, ?_⟩) hS ?_
      rotate_left
      · intro w hSw
        try dsimp only at hSw
        go_simp
        all_goals with_reducible rfl
      simp only [Act.put, List.setIfInBounds_toArray, List.set_cons_zero, List.set_cons_succ]
      refine wpAnyH_done (by kernel_rfl) ?_ _
      have H1 := hide h1
      clear h1
      gi_wp2
      refine ⟨(KeepsOthers.drew W).from _, thereK_same rfl, HT2.out.drew, HB0.out, HB1.out, HB2.out, HB3.out, fun j hj => ?_, HBB.out.drew⟩
      rcases List.mem_append.1 hj with hj | hj
      · exact HN.out j hj
      · simp at hj
        subst hj
        simp [hit, H1.out]
    | true =>
      cases h2 : (c.way x).pg == pg with
      | false =>
        refine wpIn_region_held (S := fun w' => w'.cell? ⟨g, pos x, none⟩ = some (.int .i64 (c.way x).sp) ∧ w'.cell? ⟨g, pos x + 1, none⟩ = some (.int .i64 (c.way x).pg) ∧ w'.cell? ⟨w.heap.size, 0, none⟩ = some (.int .i64 sp) ∧ w'.cell? ⟨w.heap.size + 1, 0, none⟩ = some (.int .i64 pg)) (HF.out.inRound l) (by kernel_rfl) (fun ⟨_, _, h⟩ => h) (by kernel_rfl) hS (fun hS => ?_)
        refine' wpAnyH_take (i := 0) (oi := ⟨some 12, _, _, _, _, _⟩) (v := _) rfl (by kernel_rfl) (by kernel_rfl) (by kernel_rfl) (fun _ _ _ h => h) (Or.inl ⟨by rfl, ?_⟩) hS ?_
        rotate_left
        · intro w hSw
          try dsimp only at hSw
          go_simp
          all_goals with_reducible rfl
        simp only [Act.put, List.setIfInBounds_toArray, List.set_cons_zero, List.set_cons_succ]
        refine' wpAnyH_take (i := 1) (oi := ⟨some 13, _, _, _, _, _⟩) (v := _) rfl (by kernel_rfl) (by kernel_rfl) (by kernel_rfl) (fun _ _ _ h => h) (Or.inl ⟨by rfl, ?_⟩) hS ?_
        rotate_left
        · intro w hSw
          try dsimp only at hSw
          go_simp
          all_goals with_reducible rfl
        simp only [Act.put, List.setIfInBounds_toArray, List.set_cons_zero, List.set_cons_succ]
        refine' wpAnyH_take (i := 2) (oi := ⟨some 14, _, _, _, _, _⟩) (v := _) rfl (by kernel_rfl) (by kernel_rfl) (by kernel_rfl) (fun _ _ _ h => h) (Or.inl ⟨by rfl, ?_⟩) hS ?_
        rotate_left
        · intro w hSw
          try dsimp only at hSw
          go_simp
          all_goals with_reducible rfl
        simp only [Act.put, List.setIfInBounds_toArray, List.set_cons_zero, List.set_cons_succ]
        refine' wpAnyH_take (i := 3) (oi := ⟨some 15, _, _, _, _, _⟩) (v := _) rfl (by kernel_rfl) (by kernel_rfl) (by kernel_rfl) (fun _ _ _ h => h) (Or.inl ⟨by rfl, ?_⟩) hS ?_
        rotate_left
        · intro w hSw
          try dsimp only at hSw
          go_simp
          all_goals with_reducible rfl
        simp only [Act.put, List.setIfInBounds_toArray, List.set_cons_zero, List.set_cons_succ]
        refine' wpAnyH_take (i := 4) (oi := ⟨some 16, _, _, _, _, _⟩) (v := _) rfl (by kernel_rfl) (by kernel_rfl) (by kernel_rfl) (fun _ _ _ h => h) (Or.inl ⟨by rfl, ?_⟩) hS ?_
        rotate_left
        · intro w hSw
          try dsimp only at hSw
          go_simp
          all_goals with_reducible rfl
        simp only [Act.put, List.setIfInBounds_toArray, List.set_cons_zero, List.set_cons_succ]
        refine' wpAnyH_take (i := 5) (oi := ⟨some 17, _, _, _, _, _⟩) (v := _) rfl (by kernel_rfl) (by kernel_rfl) (by kernel_rfl) (fun _ _ _ h => h) (Or.inl ⟨by rfl, ?_⟩) hS ?_
        rotate_left
        · intro w hSw
          try dsimp only at hSw
          go_simp
          all_goals with_reducible rfl
        simp only [Act.put, List.setIfInBounds_toArray, List.set_cons_zero, List.set_cons_succ]
        refine' wpAnyH_take (i := 6) (oi := ⟨some 18, _, _, _, _, _⟩) (v := _) rfl (by kernel_rfl) (by kernel_rfl) (by kernel_rfl) (fun _ _ _ h => h) (Or.inl ⟨by rfl, ?_⟩) hS ?_
        rotate_left
        · intro w hSw
          try dsimp only at hSw
          go_simp
          all_goals with_reducible rfl
        simp only [Act.put, List.setIfInBounds_toArray, List.set_cons_zero, List.set_cons_succ]
        refine' wpAnyH_take (i := 7) (oi := ⟨some 19, _, _, _, _, _⟩) (v := _) rfl (by kernel_rfl) (by kernel_rfl) (by kernel_rfl) (fun _ _ _ h => h) (Or.inl ⟨by rfl, ?_⟩) hS ?_
        rotate_left
        · intro w hSw
          try dsimp only at hSw
          go_simp
          all_goals with_reducible rfl
        simp only [Act.put, List.setIfInBounds_toArray, List.set_cons_zero, List.set_cons_succ]
        refine' wpAnyH_take (i := 8) (oi := ⟨some 20, _, _, _, _, _⟩) (v := _) rfl (by kernel_rfl) (by kernel_rfl) (by kernel_rfl) (fun _ _ _ h => h) (Or.inl ⟨by rfl, ?_⟩) hS ?_
        rotate_left
        · intro w hSw
          try dsimp only at hSw
          go_simp
          all_goals with_reducible rfl
        simp only [Act.put, List.setIfInBounds_toArray, List.set_cons_zero, List.set_cons_succ]
        refine' wpAnyH_take (i := 9) (oi := ⟨some 21, _, _, _, _, _⟩) (v := _) rfl (by kernel_rfl) (by kernel_rfl) (by kernel_rfl) (fun _ _ _ h => h) (Or.inl ⟨by rfl, ?_⟩) hS ?_
        rotate_left
        · intro w hSw
          try dsimp only at hSw
          go_simp
          all_goals with_reducible rfl
        simp only [Act.put, List.setIfInBounds_toArray, List.set_cons_zero, List.set_cons_succ]
        refine' wpAnyH_take (i := 10) (oi := ⟨some 22, _, _, _, _, _⟩) (v := _) rfl (by kernel_rfl) (by kernel_rfl) (by kernel_rfl) (fun _ _ _ h => h) (Or.inl ⟨by rfl, ?_⟩) hS ?_
        rotate_left
        · intro w hSw
          try dsimp only at hSw
          go_simp
          all_goals with_reducible rfl
        simp only [Act.put, List.setIfInBounds_toArray, List.set_cons_zero, List.set_cons_succ]
        refine' wpAnyH_take (i := 11) (oi := ⟨some 23, _, _, _, _, _⟩) (v := _) rfl (by kernel_rfl) (by kernel_rfl) (by kernel_rfl) (fun _ _ _ h => h) (Or.inl ⟨by rfl, ?_⟩) hS ?_
        rotate_left
        · intro w hSw
          try dsimp only at hSw
          go_simp
          all_goals with_reducible rfl
        simp only [Act.put, List.setIfInBounds_toArray, List.set_cons_zero, List.set_cons_succ]
        refine' wpAnyH_take (i := 12) (oi := ⟨some 24, _, _, _, _, _⟩) (v := _) rfl (by kernel_rfl) (by kernel_rfl) (by kernel_rfl) (fun _ _ _ h => h) (Or.inl ⟨by rfl, ?_⟩) hS ?_
        rotate_left
        · intro w hSw
          try dsimp only at hSw
          go_simp
          all_goals with_reducible rfl
        simp only [Act.put, List.setIfInBounds_toArray, List.set_cons_zero, List.set_cons_succ]
        refine' wpAnyH_take (i := 13) (oi := ⟨some 25, _, _, _, _, _⟩) (v := _) rfl (by kernel_rfl) (by kernel_rfl) (by kernel_rfl) (fun _ _ _ h => h) (Or.inl ⟨by rfl, ?_⟩) hS ?_
        rotate_left
        · intro w hSw
          try dsimp only at hSw
          go_simp
          all_goals with_reducible rfl
        simp only [Act.put, List.setIfInBounds_toArray, List.set_cons_zero, List.set_cons_succ]
        refine wpAnyH_done (by kernel_rfl) ?_ _
        have H1 := hide h1
        have H2 := hide h2
        clear h1 h2
        gi_wp2
        refine ⟨(KeepsOthers.drew W).from _, thereK_same rfl, HT2.out.drew, HB0.out, HB1.out, HB2.out, HB3.out, fun j hj => ?_, HBB.out.drew⟩
        rcases List.mem_append.1 hj with hj | hj
        · exact HN.out j hj
        · simp at hj
          subst hj
          simp [hit, H1.out, H2.out]
      | true =>
        refine wpIn_region_held (S := fun w' => w'.cell? ⟨g, pos x, none⟩ = some (.int .i64 (c.way x).sp) ∧ w'.cell? ⟨g, pos x + 1, none⟩ = some (.int .i64 (c.way x).pg) ∧ w'.cell? ⟨w.heap.size, 0, none⟩ = some (.int .i64 sp) ∧ w'.cell? ⟨w.heap.size + 1, 0, none⟩ = some (.int .i64 pg)) (HF.out.inRound l) (by kernel_rfl) (fun ⟨_, _, h⟩ => h) (by kernel_rfl) hS (fun hS => ?_)
        refine' wpAnyH_take (i := 0) (oi := ⟨some 12, _, _, _, _, _⟩) (v := _) rfl (by kernel_rfl) (by kernel_rfl) (by kernel_rfl) (fun _ _ _ h => h) (Or.inl ⟨by rfl, ?_⟩) hS ?_
        rotate_left
        · intro w hSw
          try dsimp only at hSw
          go_simp
          all_goals with_reducible rfl
        simp only [Act.put, List.setIfInBounds_toArray, List.set_cons_zero, List.set_cons_succ]
        refine' wpAnyH_take (i := 1) (oi := ⟨some 13, _, _, _, _, _⟩) (v := _) rfl (by kernel_rfl) (by kernel_rfl) (by kernel_rfl) (fun _ _ _ h => h) (Or.inl ⟨by rfl, ?_⟩) hS ?_
        rotate_left
        · intro w hSw
          try dsimp only at hSw
          go_simp
          all_goals with_reducible rfl
        simp only [Act.put, List.setIfInBounds_toArray, List.set_cons_zero, List.set_cons_succ]
        refine' wpAnyH_take (i := 2) (oi := ⟨some 14, _, _, _, _, _⟩) (v := _) rfl (by kernel_rfl) (by kernel_rfl) (by kernel_rfl) (fun _ _ _ h => h) (Or.inl ⟨by rfl, ?_⟩) hS ?_
        rotate_left
        · intro w hSw
          try dsimp only at hSw
          go_simp
          all_goals with_reducible rfl
        simp only [Act.put, List.setIfInBounds_toArray, List.set_cons_zero, List.set_cons_succ]
        refine' wpAnyH_take (i := 3) (oi := ⟨some 15, _, _, _, _, _⟩) (v := _) rfl (by kernel_rfl) (by kernel_rfl) (by kernel_rfl) (fun _ _ _ h => h) (Or.inl ⟨by rfl, ?_⟩) hS ?_
        rotate_left
        · intro w hSw
          try dsimp only at hSw
          go_simp
          all_goals with_reducible rfl
        simp only [Act.put, List.setIfInBounds_toArray, List.set_cons_zero, List.set_cons_succ]
        refine' wpAnyH_take (i := 4) (oi := ⟨some 16, _, _, _, _, _⟩) (v := _) rfl (by kernel_rfl) (by kernel_rfl) (by kernel_rfl) (fun _ _ _ h => h) (Or.inl ⟨by rfl, ?_⟩) hS ?_
        rotate_left
        · intro w hSw
          try dsimp only at hSw
          go_simp
          all_goals with_reducible rfl
        simp only [Act.put, List.setIfInBounds_toArray, List.set_cons_zero, List.set_cons_succ]
        refine' wpAnyH_take (i := 5) (oi := ⟨some 17, _, _, _, _, _⟩) (v := _) rfl (by kernel_rfl) (by kernel_rfl) (by kernel_rfl) (fun _ _ _ h => h) (Or.inl ⟨by rfl, ?_⟩) hS ?_
        rotate_left
        · intro w hSw
          try dsimp only at hSw
          go_simp
          all_goals with_reducible rfl
        simp only [Act.put, List.setIfInBounds_toArray, List.set_cons_zero, List.set_cons_succ]
        refine' wpAnyH_take (i := 6) (oi := ⟨some 18, _, _, _, _, _⟩) (v := _) rfl (by kernel_rfl) (by kernel_rfl) (by kernel_rfl) (fun _ _ _ h => h) (Or.inl ⟨by rfl, ?_⟩) hS ?_
        rotate_left
        · intro w hSw
          try dsimp only at hSw
          go_simp
          all_goals with_reducible rfl
        simp only [Act.put, List.setIfInBounds_toArray, List.set_cons_zero, List.set_cons_succ]
        refine' wpAnyH_take (i := 7) (oi := ⟨some 19, _, _, _, _, _⟩) (v := _) rfl (by kernel_rfl) (by kernel_rfl) (by kernel_rfl) (fun _ _ _ h => h) (Or.inl ⟨by rfl, ?_⟩) hS ?_
        rotate_left
        · intro w hSw
          try dsimp only at hSw
          go_simp
          all_goals with_reducible rfl
        simp only [Act.put, List.setIfInBounds_toArray, List.set_cons_zero, List.set_cons_succ]
        refine' wpAnyH_take (i := 8) (oi := ⟨some 20, _, _, _, _, _⟩) (v := _) rfl (by kernel_rfl) (by kernel_rfl) (by kernel_rfl) (fun _ _ _ h => h) (Or.inl ⟨by rfl, ?_⟩) hS ?_
        rotate_left
        · intro w hSw
          try dsimp only at hSw
          go_simp
          all_goals with_reducible rfl
        simp only [Act.put, List.setIfInBounds_toArray, List.set_cons_zero, List.set_cons_succ]
        refine' wpAnyH_take (i := 9) (oi := ⟨some 21, _, _, _, _, _⟩) (v := _) rfl (by kernel_rfl) (by kernel_rfl) (by kernel_rfl) (fun _ _ _ h => h) (Or.inl ⟨by rfl, ?_⟩) hS ?_
        rotate_left
        · intro w hSw
          try dsimp only at hSw
          go_simp
          all_goals with_reducible rfl
        simp only [Act.put, List.setIfInBounds_toArray, List.set_cons_zero, List.set_cons_succ]
        refine' wpAnyH_take (i := 10) (oi := ⟨some 22, _, _, _, _, _⟩) (v := _) rfl (by kernel_rfl) (by kernel_rfl) (by kernel_rfl) (fun _ _ _ h => h) (Or.inl ⟨by rfl, ?_⟩) hS ?_
        rotate_left
        · intro w hSw
          try dsimp only at hSw
          go_simp
          all_goals with_reducible rfl
        simp only [Act.put, List.setIfInBounds_toArray, List.set_cons_zero, List.set_cons_succ]
        refine' wpAnyH_take (i := 11) (oi := ⟨some 23, _, _, _, _, _⟩) (v := _) rfl (by kernel_rfl) (by kernel_rfl) (by kernel_rfl) (fun _ _ _ h => h) (Or.inl ⟨by rfl, ?_⟩) hS ?_
        rotate_left
        · intro w hSw
          try dsimp only at hSw
          go_simp
          all_goals with_reducible rfl
        simp only [Act.put, List.setIfInBounds_toArray, List.set_cons_zero, List.set_cons_succ]
        refine' wpAnyH_take (i := 12) (oi := ⟨some 24, _, _, _, _, _⟩) (v := _) rfl (by kernel_rfl) (by kernel_rfl) (by kernel_rfl) (fun _ _ _ h => h) (Or.inl ⟨by rfl, ?_⟩) hS ?_
        rotate_left
        · intro w hSw
          try dsimp only at hSw
          go_simp
          all_goals with_reducible rfl
        simp only [Act.put, List.setIfInBounds_toArray, List.set_cons_zero, List.set_cons_succ]
        refine' wpAnyH_take (i := 13) (oi := ⟨some 25, _, _, _, _, _⟩) (v := _) rfl (by kernel_rfl) (by kernel_rfl) (by kernel_rfl) (fun _ _ _ h => h) (Or.inl ⟨by rfl, ?_⟩) hS ?_
        rotate_left
        · intro w hSw
          try dsimp only at hSw
          go_simp
          all_goals with_reducible rfl
        simp only [Act.put, List.setIfInBounds_toArray, List.set_cons_zero, List.set_cons_succ]
        refine wpAnyH_done (by kernel_rfl) ?_ _
        have hfv := findV_hit hx8 HX.out (by rw [← HP.out]; exact HN.out) (show hit c sp pg x = true by simp [hit, h1, h2])
        have H1 := hide hfv
        clear h1 h2 hfv
        obtain ⟨r0, r1, r2, r3, r4⟩ := blk_row HB2.out
        have q0 := HB2.out.frozen 0
        have q1 := HB2.out.frozen 1
        have q2 := HB2.out.frozen 2
        have q3 := HB2.out.frozen 3
        have q4 := HB2.out.frozen 4
        have r5 := HB3.out.cell 0
        have q5 := HB3.out.frozen 0
        gi_wp2
        have hz2 := ((blk5_set HB2.out (c.way x)).far (p := ⟨w.heap.size + 1 + 1 + 1, 0, none⟩) (show w.heap.size + 1 + 1 ≠ w.heap.size + 1 + 1 + 1 by omega) (.bool true)).drew
        have hm3 := stored5_mod (Mod.refl (· = w.heap.size + 1 + 1) W) (g := w.heap.size + 1 + 1) (.inl rfl) 0 (c.way x)
        have hz3 := ((HB3.out.mod hm3 (by omega)).set_ 0 (.bool true)).drew
        have hmz := ((stored5_mod (Mod.refl (fun k => k = w.heap.size + 1 + 1 ∨ k = w.heap.size + 1 + 1 + 1) W) (g := w.heap.size + 1 + 1) (.inl (.inl rfl)) 0 (c.way x)).setCell (p := ⟨w.heap.size + 1 + 1 + 1, 0, none⟩) (.inl (.inr rfl)) (.bool true)).drew
        exact ⟨((keeps_set (stored5_keeps (KeepsOthers.refl W) (w.heap.size + 1 + 1) 0 (c.way x))).trans (KeepsOthers.drew _)).from _, rfl, x, H1.out, hz2, hz3, below_mod HBB.out (Nat.le_refl _) hmz (fun k hk => by omega)⟩
  case done =>
    rintro D xs W hD hxs ⟨hT, hb0', hb1', hb2', hb3', hnot, hB⟩ hd
    subst hxs
    have HB2 := hide hb2'
    have HB3 := hide hb3'
    have HN := hide hnot
    have HBB := hide hB
    have HDD := hide hd
    obtain ⟨r0, r1, r2, r3, r4⟩ := blk_row hb2'
    have q0 := hb2'.frozen 0
    have q1 := hb2'.frozen 1
    have q2 := hb2'.frozen 2
    have q3 := hb2'.frozen 3
    have q4 := hb2'.frozen 4
    have r5 := hb3'.cell 0
    have q5 := hb3'.frozen 0
    clear hT hb0' hb1' hb2' hb3' hnot hB hd
    gi_wp2
    have hz2 := (blk5_set HB2.out Tr.zero).far (p := ⟨w.heap.size + 1 + 1 + 1, 0, none⟩) (show w.heap.size + 1 + 1 ≠ w.heap.size + 1 + 1 + 1 by omega) (.bool false)
    have hm3 := stored5_mod (Mod.refl (· = w.heap.size + 1 + 1) W) (g := w.heap.size + 1 + 1) (.inl rfl) 0 Tr.zero
    have hz3 := (HB3.out.mod hm3 (by omega)).set_ 0 (.bool false)
    have hmz := (stored5_mod (Mod.refl (fun k => k = w.heap.size + 1 + 1 ∨ k = w.heap.size + 1 + 1 + 1) W) (g := w.heap.size + 1 + 1) (.inl (.inl rfl)) 0 Tr.zero).setCell (p := ⟨w.heap.size + 1 + 1 + 1, 0, none⟩) (.inl (.inr rfl)) (.bool false)
    have hBz := below_mod HBB.out (Nat.le_refl _) hmz (fun k hk => by omega)
    have hdz := (keeps_set (p := ⟨w.heap.size + 1 + 1 + 1, 0, none⟩) (u := .bool false) (stored5_keeps (KeepsOthers.refl W) (w.heap.size + 1 + 1) 0 Tr.zero)).same D _ HDD.out rfl
    change bodyPostM F q Try.prog Try.f51 _ _ _ ((stored5 W (w.heap.size + 1 + 1) 0 Tr.zero).setCell ⟨w.heap.size + 1 + 1 + 1, 0, none⟩ (.bool false))
    clear hm3 hmz
    generalize (stored5 W (w.heap.size + 1 + 1) 0 Tr.zero).setCell ⟨w.heap.size + 1 + 1 + 1, 0, none⟩ (.bool false) = Wz at *
    have hz3 : Blk Wz (w.heap.size + 1 + 1 + 1) 4 #[.bool false] := hz3
    have skf := Skips.putObj (B := W0.heap.size) hdz rfl hD (.deferred none)
    refine ⟨by simp, .inl ⟨_, _, rfl, run_takeDeferred hdz, ?_⟩⟩
    have zr := skf.blk hz2
    have zb := skf.blk hz3
    obtain ⟨z0, z1, z2, z3, z4⟩ := blk_row zr
    have z5 := zb.cell 0
    refine ⟨.tuple #[.agg Tr.zero.row, .bool false], ?_, ?_, below_skips hBz skf hb0.size (Nat.le_refl _)⟩
    · simp [results, Try.f51, go_sem, z0, z1, z2, z3, z4, z5, Tr.row]
    · rw [show findTr c sp pg = Tr.zero by unfold findTr; rw [findV_none HN.out], show findOk c sp pg = false by unfold findOk; rw [findV_none HN.out]; rfl]
  case stop =>
    rintro D k pre W hD ⟨rfl, i, hi, hz2, hz3, hBz⟩ hdz
    gi_wp2
    have skf := Skips.putObj (B := W0.heap.size) hdz rfl hD (.deferred none)
    refine ⟨by simp, .inl ⟨_, _, rfl, run_takeDeferred hdz, ?_⟩⟩
    have zr := skf.blk hz2
    have zb := skf.blk hz3
    obtain ⟨z0, z1, z2, z3, z4⟩ := blk_row zr
    have z5 := zb.cell 0
    refine ⟨.tuple #[.agg (c.way i).row, .bool true], ?_, ?_, below_skips hBz skf hb0.size (Nat.le_refl _)⟩
    · simp [results, Try.f51, go_sem, z0, z1, z2, z3, z4, z5, Tr.row]
    · rw [show findTr c sp pg = c.way i by unfold findTr; rw [hi], show findOk c sp pg = true by unfold findOk; rw [hi]; rfl]
theorem find_in (g : Nat) (c : Cache) (sp pg : Int) (w : World) (hT : TlbAt w g c) :
    Calls Try.prog 51 #[.pointer (some ⟨g, 0, none⟩), .int .i64 sp, .int .i64 pg] w fun e w' => e = .returned (.tuple #[.agg (findTr c sp pg).row, .bool (findOk c sp pg)]) ∧ Below w.heap.size w w' :=
  callsIn_wide.1 (find_in_F Fence.wide 10 (wideF _) rfl (by omega) g c sp pg w hT)
end Go.Proofs.Ytlfenakabedmfaa
namespace Go.Proofs.Ytlfenakabedmfaa
open Go.RowKit Go.Shelf
attribute [local go_sem] Oper.semAt_some
/-- Some translations as a row. -/
def rowsOf (c : Cache) (l : List Nat) : List Value := l.flatMap fun i => (c.way i).row.toList
theorem rowsOf_snoc (c : Cache) (l : List Nat) (i : Nat) : rowsOf c (l ++ [i]) = rowsOf c l ++ (c.way i).row.toList := by simp [rowsOf]
theorem row_one (y : Tr) : ∀ u ∈ y.row.toList, u.oneCell' = true := by
  intro u hu
  simp [Tr.row] at hu
  rcases hu with rfl | rfl | rfl | rfl | rfl <;> rfl
theorem transInfo : (Try.prog.info? 42).map (fun i => (i.zero, i.size, i.bytes)) = some (some (.agg Tr.zero.row), 5, 32) := by kernel_rfl
theorem vis_len (c : Cache) (n : Nat) : (vis c n).length ≤ n := by
  have := List.length_filter_le (fun i => (c.way i).sp != 0) (List.range n)
  simpa [vis] using this
set_option maxRecDepth 100000 in
set_option maxHeartbeats 4000000 in
theorem all_in_F (F : Fence) (q : Nat) (hF : WideF F Try.prog) (hro : F.round = none) (hq : 3 ≤ q) (g : Nat) (c : Cache) (w : World) (hT : TlbAt w g c) :
    CallsIn F q Try.prog 47 #[.pointer (some ⟨g, 0, none⟩)] w fun e w' => ∃ v, e = .returned v ∧ w'.ownsRow w.heap.size 42 5 v (vis c 8).length (rowsOf c (vis c 8)) ∧ Below w.heap.size w w' := by
  have hlt := hT.lt
  have hq1 : 1 ≤ q := by omega
  have HT := hide hT
  have HF := hide hF
  have hfn := hF.fn
  refine callsIn_of_wp_marks Try.func47 rfl (hF.fn _) ?_ hro
  clear hF hT
  simp only [Try.ntmps47, List.size_toArray, List.length_cons, List.length_nil, Nat.reduceAdd, Nat.reduceSub, Array.replicate_succ, Array.replicate_zero, List.push_toArray, List.append_toArray, List.nil_append, List.cons_append]
  gi_wp2_with (gi_at_call 73; refine (there_in F (q - 1) HF.out hro _ _).mono ?_; rintro e w' ⟨rfl, rfl⟩)
  obtain ⟨W0, hW0⟩ : ∃ W0 : World, (w.alloc (.cells #[.slice none 0 0] 38)).alloc (.cells #[.pointer (some ⟨g, 0, none⟩)] 99) = W0 := ⟨_, rfl⟩
  have b0 : Blk W0 w.heap.size 38 #[.slice none 0 0] := by rw [← hW0]; exact (Blk.new w _ _).alloc _
  have b1 : Blk W0 (w.heap.size + 1) 99 #[.pointer (some ⟨g, 0, none⟩)] := by
    have h := Blk.new (w.alloc (.cells #[.slice none 0 0] 38)) 99 #[.pointer (some ⟨g, 0, none⟩)]
    simp only [World.size_alloc] at h
    rw [← hW0]; exact h
  have hb0 : Below w.heap.size w W0 := by rw [← hW0]; exact ((Below.refl _ w).alloc (Nat.le_refl _) _).alloc (by simp) _
  change Code.wpIn _ _ _ _ _ _ ((w.alloc (.cells #[.slice none 0 0] 38)).alloc (.cells #[.pointer (some ⟨g, 0, none⟩)] 99))
  rw [hW0]
  clear hW0
  have hT0 := HT.out.below hb0 hlt
  have hl4 := b1.lt
  obtain ⟨i0, hi0, hz0, hz1, hz2⟩ := info_parts transInfo
  refine' wpIn_iter1 hro hq1 (gf := 89) (lb := _) rfl (hfn _) (enters_of Try.func89 (by kernel_rfl) rfl) (there_iter F (q - 1) HF.out hro (by omega) g _ c W0 hT0 b1)
    (fun pre x A B C D h1 h2 h3 => ?hK) (fun _ _ _ _ h hk => ⟨h.1, h.2.1, h.2.2.1, by obtain ⟨c', h1, h2⟩ := h.2.2.2; exact ⟨c', h1.skips hk, h2⟩⟩) (fun _ _ _ h _ => h) (fun _ => rfl)
    (fun pre W => TlbAt W g c ∧ Blk W (w.heap.size + 1) 99 #[.pointer (some ⟨g, 0, none⟩)] ∧ (∃ v, Blk W w.heap.size 38 #[v] ∧ W.ownsRow w.heap.size 42 5 v pre.length (rowsOf c pre)) ∧ Below w.heap.size w W)
    (fun _ _ _ => False)
    ?hI (fun _ _ _ _ h _ => h) ?h0 _ ?assign ?body ?done (fun _ _ _ _ _ h _ => h.elim)
  case hK =>
    refine ⟨KeepB.skips (fun k hk => by omega) h1 h2.1 h3, fun c' hc' => ?_⟩
    obtain ⟨y, hy⟩ := h2.2 c' (hc'.skips h1)
    exact ⟨y, hy.skips h3⟩
  case hI =>
    rintro s A C ⟨h1, h2, ⟨v, h3, h4⟩, h5⟩ hk
    exact ⟨h1.skips hk, hk.blk h2, ⟨v, hk.blk h3, owns_skips h4 hk⟩, below_skips h5 hk hb0.size (Nat.le_refl _)⟩
  case h0 => exact ⟨hT0, b1, ⟨_, b0, World.ownsRow_nil _ _ _ _⟩, hb0⟩
  case assign =>
    intro l x W K hK
    gi_wp2
    exact hK
  case body =>
    rintro l pre x W hl hr ⟨hT, hb, ⟨v, hv, hrow⟩, hB⟩ ⟨hx8, hx0, hpre, _⟩
    obtain ⟨t0, t1, t2, t3, t4⟩ := hT.cell x hx8
    have hS : (fun w' : World => w'.cell? ⟨w.heap.size, 0, none⟩ = some v ∧ w'.cell? ⟨g, pos x, none⟩ = some (.int .i64 (c.way x).sp) ∧ w'.cell? ⟨g, pos x + 1, none⟩ = some (.int .i64 (c.way x).pg) ∧ w'.cell? ⟨g, pos x + 2, none⟩ = some (.int .i64 (c.way x).fr) ∧ w'.cell? ⟨g, pos x + 3, none⟩ = some (.bool (c.way x).rd) ∧ w'.cell? ⟨g, pos x + 4, none⟩ = some (.bool (c.way x).wr)) W.drew := ⟨hv.cell 0, t0, t1, t2, t3, t4⟩
    have hplen : pre.length ≤ 8 := by rw [hpre]; exact Nat.le_trans (vis_len c x) (by omega)
    have HT2 := hide hT
    have Hr := hide hr
    have HRow := hide hrow
    have HP := hide hpre
    clear hT hr hrow t0 t1 t2 t3 t4 hpre
    gi_wp2
    refine wpIn_region_D 6 (fun w' => w'.cell? ⟨w.heap.size, 0, none⟩ = some v ∧ w'.cell? ⟨g, pos x, none⟩ = some (.int .i64 (c.way x).sp) ∧ w'.cell? ⟨g, pos x + 1, none⟩ = some (.int .i64 (c.way x).pg) ∧ w'.cell? ⟨g, pos x + 2, none⟩ = some (.int .i64 (c.way x).fr) ∧ w'.cell? ⟨g, pos x + 3, none⟩ = some (.bool (c.way x).rd) ∧ w'.cell? ⟨g, pos x + 4, none⟩ = some (.bool (c.way x).wr)) (HF.out.inRound l) (by kernel_rfl) (fun ⟨_, _, h⟩ => h) (by kernel_rfl) ?_
    refine' wpAnyD_take (i := 0) (oi := ⟨some 8, _, _, _, _, _⟩) (v := _) rfl (by kernel_rfl) (by kernel_rfl) (by kernel_rfl) (by kernel_rfl) (fun _ _ _ h => h) (Or.inl ⟨by rfl, ?_⟩) hS ?_
    rotate_left
    · intro w hSw
      try dsimp only at hSw
      go_simp
      all_goals with_reducible rfl
    simp only [Act.put, List.setIfInBounds_toArray, List.set_cons_zero, List.set_cons_succ]
    refine' wpAnyD_take (i := 1) (oi := ⟨some 9, _, _, _, _, _⟩) (v := _) rfl (by kernel_rfl) (by kernel_rfl) (by kernel_rfl) (by kernel_rfl) (fun _ _ _ h => h) (Or.inl ⟨by rfl, ?_⟩) hS ?_
    rotate_left
    · intro w hSw
      try dsimp only at hSw
      go_simp
      all_goals with_reducible rfl
    simp only [Act.put, List.setIfInBounds_toArray, List.set_cons_zero, List.set_cons_succ]
    refine' wpAnyD_take (i := 2) (oi := ⟨some 10, _, _, _, _, _⟩) (v := _) rfl (by kernel_rfl) (by kernel_rfl) (by kernel_rfl) (by kernel_rfl) (fun _ _ _ h => h) (Or.inl ⟨by rfl, ?_⟩) hS ?_
    rotate_left
    · intro w hSw
      try dsimp only at hSw
      go_simp
      all_goals with_reducible rfl
    simp only [Act.put, List.setIfInBounds_toArray, List.set_cons_zero, List.set_cons_succ]
    refine' wpAnyD_take (i := 3) (oi := ⟨some 11, _, _, _, _, _⟩) (v := _) rfl (by kernel_rfl) (by kernel_rfl) (by kernel_rfl) (by kernel_rfl) (fun _ _ _ h => h) (Or.inl ⟨by rfl, ?_⟩) hS ?_
    rotate_left
    · intro w hSw
      try dsimp only at hSw
      go_simp
      all_goals with_reducible rfl
    simp only [Act.put, List.setIfInBounds_toArray, List.set_cons_zero, List.set_cons_succ]
    refine wpAnyD_ready (rs := [4]) (by kernel_rfl) (by simp) ?_
    refine AllReadyD.cons (o := ⟨some 12, _, _, _, _, _⟩) rfl (fun K hK => ?_) AllReadyD.nil
    go_simp
    obtain ⟨W1, hW1⟩ : ∃ W1 : World, (W.alloc (.cells (c.way x).row 42)).drew = W1 := ⟨_, rfl⟩
    have hbA : Blk W1 (w.heap.size + 1) 99 #[.pointer (some ⟨g, 0, none⟩)] := by rw [← hW1]; exact (hb.alloc _).drew
    have hvA : Blk W1 w.heap.size 38 #[v] := by rw [← hW1]; exact (hv.alloc _).drew
    have hTA : TlbAt W1 g c := by rw [← hW1]; exact HT2.out.below (((Below.refl _ W).alloc (Nat.le_refl _) _).drew) HT2.out.lt
    have hrA : W1.ownsRow w.heap.size 42 5 v pre.length (rowsOf c pre) := by rw [← hW1]; exact (HRow.out.alloc _).drew
    have hnA : W1.heap[W.heap.size]? = some (.cells (c.way x).row 42 (0, 0)) := by rw [← hW1]; exact heap_alloc_new W _
    have hkA : KeepsOthers W W1 := by rw [← hW1]; exact (KeepsOthers.alloc W _).trans (KeepsOthers.drew _)
    have hmA : Mod (fun k => some k = v.ownBlock ∨ k = w.heap.size) W W1 := by rw [← hW1]; exact ((Mod.refl _ W).alloc _).drew
    have hBA : Below w.heap.size w W1 := by rw [← hW1]; exact (hB.alloc hB.size _).drew
    change K _ ((W.alloc (.cells (c.way x).row 42)).drew)
    rw [hW1]
    clear hW1
    obtain ⟨s0, s1, s2, s3, s4⟩ := hTA.cell x hx8
    refine hK.out _ _ (fun _ => ⟨hvA.cell 0, s0, s1, s2, s3, s4⟩) (fun hS1 => ?_)
    clear hK K hS s0 s1 s2 s3 s4
    refine wpAnyD_ready (rs := [5]) (by kernel_rfl) (by simp) ?_
    refine AllReadyD.cons (o := ⟨some 13, _, _, _, _, _⟩) rfl (fun K hK => ?_) AllReadyD.nil
    refine step_append_lies (w := W1) rfl (.tmp 8) (.tmp 12) 38 rfl w.heap.size 42 i0 (.agg Tr.zero.row) 5 32 Try.underlying38 hi0 hz0 hz1 hz2 rfl (by decide) v pre.length (rowsOf c pre) (by rfl) hrA ⟨W.heap.size, 0, none⟩ 1 1 (c.way x).row.toList (by rfl) rfl
      (World.news_of_block hnA) (row_one _) (by decide) (by unfold maxLen; omega) (by omega) hBA.size _ rfl ?_
    intro g' cap w1 hown hgrow hat hlt'
    have n1 := hbA.not_row (by decide) hrA
    have n2 := hvA.not_row (by decide) hrA
    have n4 : some g ≠ v.ownBlock := fun e => by have := hrA.lt g e.symm; omega
    have hbC := hbA.grown hgrow n1
    have hvC := hvA.grown hgrow n2
    have hTC : TlbAt w1 g c := hTA.same (hgrow.block _ hTA.lt n4)
    obtain ⟨s0, s1, s2, s3, s4⟩ := hTC.cell x hx8
    refine hK.out _ _ (fun _ => ⟨hvC.cell 0, s0, s1, s2, s3, s4⟩) (fun _ => ?_)
    clear hK K hS1 s0 s1 s2 s3 s4
    simp only [Act.put, List.setIfInBounds_toArray, List.set_cons_zero, List.set_cons_succ]
    have cv := hvC.cell 0
    have fv := hvC.frozen 0
    refine wpAnyD_ready (rs := [6]) (by kernel_rfl) (by simp) ?_
    refine AllReadyD.cons (o := ⟨none, _, _, _, _, _⟩) rfl (fun K hK => ?_) AllReadyD.nil
    go_simp
    refine hK.out _ _ (fun h => absurd h (by decide)) (fun _ => ?_)
    clear hK K
    refine wpAnyD_done (by kernel_rfl) ?_ _
    have hvD := hvC.set_ 0 (.slice (some ⟨g', 0, none⟩) (pre.length + 1) cap)
    have hmC : Mod (fun k => some k = v.ownBlock ∨ k = w.heap.size) W w1 := ⟨hgrow.os.trans hmA.os, hgrow.tape.trans hmA.tape, hgrow.output.trans hmA.output, Nat.le_trans hmA.size hgrow.size, fun k hk hn =>
      (hgrow.block k (Nat.lt_of_lt_of_le hk hmA.size) (fun e => hn (.inl e))).trans (hmA.block k hk hn)⟩
    have hmD := hmC.setCell (p := ⟨w.heap.size, 0, none⟩) (.inl (.inr rfl)) (.slice (some ⟨g', 0, none⟩) (pre.length + 1) cap)
    have m4 : some g ≠ v.ownBlock := fun e => by have := HRow.out.lt g e.symm; omega
    have mb := hb.not_row (by decide) HRow.out
    have hrowD : (w1.setCell ⟨w.heap.size, 0, none⟩ (.slice (some ⟨g', 0, none⟩) (pre.length + 1) cap)).ownsRow w.heap.size 42 5 (.slice (some ⟨g', 0, none⟩) (pre.length + 1) cap) (pre.length + 1) (rowsOf c pre ++ (c.way x).row.toList) :=
      hown.kept (grownBy_setCell' w1 w.heap.size _) (.inr (hvC.not_row (by decide) hown).symm)
    have hTD : TlbAt (w1.setCell ⟨w.heap.size, 0, none⟩ (.slice (some ⟨g', 0, none⟩) (pre.length + 1) cap)) g c := HT2.out.mod hmD (fun h => h.elim m4 (by omega))
    refine ⟨((hkA.trans (KeepsOthers.of_grownBy hgrow (fun j o e ho => ?_))).trans (KeepsOthers.setCell _ _ _)).from _, ⟨KeepB.of_mod hmD (fun k hk h => ?_), fun c' hc' => ⟨c'.way x, ?_⟩⟩, hTD, hb.mod hmD (fun h => h.elim mb (by omega)), ⟨_, hvD, ?_⟩, ?_⟩
    · rcases hrA.2 with ⟨rfl, _⟩ | ⟨g2, c2, cur, rfl, _, hg2, _⟩
      · simp [Value.ownBlock] at e
      · have e2 : g2 = j := by simpa [Value.ownBlock] using e
        subst e2
        rw [hg2] at ho
        cases ho
        rfl
    · subst hk
      exact h.elim mb (by omega)
    · rw [put_self]
      exact hc'.mod hmD (fun h => h.elim m4 (by omega))
    · rw [List.length_append, List.length_singleton, rowsOf_snoc]
      exact hrowD
    · exact (hBA.grown hgrow hBA.size (fun k e => (hrA.lt k e).1)).setCell (p := ⟨w.heap.size, 0, none⟩) (Nat.le_refl _) _
  case done =>
    rintro D xs W hD rfl ⟨hT, hb, ⟨v, hv, hrow⟩, hB⟩ hd
    have c1 := hv.cell 0
    have HRow := hide hrow
    have HB := hide hB
    have HV := hide hv
    clear hT hrow hB hb hv
    gi_wp2
    have sk := Skips.putObj (B := W0.heap.size) hd rfl hD (.deferred none)
    refine ⟨by simp, .inl ⟨_, _, rfl, run_takeDeferred hd, ?_⟩⟩
    exact ⟨v, by simp [results, Try.f47, go_sem], v, rfl, owns_skips HRow.out sk, below_skips HB.out sk hb0.size (Nat.le_refl _)⟩
theorem all_of (g : Nat) (c : Cache) (w : World) (hT : TlbAt w g c) :
    Calls Try.prog 47 #[.pointer (some ⟨g, 0, none⟩)] w fun e w' => ∃ v, e = .returned v ∧ w'.ownsRow w.heap.size 42 5 v (vis c 8).length (rowsOf c (vis c 8)) ∧ Below w.heap.size w w' :=
  callsIn_wide.1 (all_in_F Fence.wide 10 (wideF _) rfl (by omega) g c w hT)
end Go.Proofs.Ytlfenakabedmfaa
namespace Go.Proofs.Ytlfenakabedmfaa
open Go.RowKit Go.Shelf
attribute [local go_sem] Oper.semAt_some
/-- Those of a list that P takes are gone. -/
def dropAt (c : Cache) (P : Tr → Bool) (l : List Nat) : Cache := ⟨fun i => if i ∈ l ∧ P (c.way i) = true then Tr.zero else c.way i, c.due⟩
def dropN (c : Cache) (P : Tr → Bool) (l : List Nat) : Nat := (l.filter fun i => P (c.way i)).length
theorem dropAt_nil (c : Cache) (P : Tr → Bool) : dropAt c P [] = c := by
  cases c
  simp [dropAt]
theorem dropAt_yes {c : Cache} {P : Tr → Bool} {l : List Nat} {x : Nat} (h : P (c.way x) = true) : (dropAt c P l).put x Tr.zero = dropAt c P (l ++ [x]) := by
  simp only [dropAt, Cache.put, Cache.mk.injEq, and_true]
  funext j
  by_cases e : j = x
  · subst e
    rw [if_pos rfl, if_pos ⟨by simp, h⟩]
  · rw [if_neg e]
    have : (j ∈ l ++ [x]) ↔ j ∈ l := by simp [e]
    simp only [this]
theorem dropAt_no {c : Cache} {P : Tr → Bool} {l : List Nat} {x : Nat} (h : P (c.way x) = false) : dropAt c P (l ++ [x]) = dropAt c P l := by
  simp only [dropAt, Cache.mk.injEq, and_true]
  funext j
  by_cases e : j = x
  · subst e
    rw [if_neg (by simp [h]), if_neg (by simp [h])]
  · have : (j ∈ l ++ [x]) ↔ j ∈ l := by simp [e]
    simp only [this]
theorem dropN_yes {c : Cache} {P : Tr → Bool} {l : List Nat} {x : Nat} (h : P (c.way x) = true) : dropN c P (l ++ [x]) = dropN c P l + 1 := by simp [dropN, List.filter_append, h]
theorem dropN_no {c : Cache} {P : Tr → Bool} {l : List Nat} {x : Nat} (h : P (c.way x) = false) : dropN c P (l ++ [x]) = dropN c P l := by simp [dropN, List.filter_append, h]
theorem dropN_le (c : Cache) (P : Tr → Bool) (l : List Nat) : dropN c P l ≤ l.length := List.length_filter_le _ _
set_option maxRecDepth 100000 in
set_option maxHeartbeats 4000000 in
theorem drop_in_F (F : Fence) (q : Nat) (hF : WideF F Try.prog) (hro : F.round = none) (hq : 3 ≤ q) (g : Nat) (c : Cache) (P : Tr → Bool) (f : FuncId) (lb : Array Value) (w : World) (hT : TlbAt w g c)
    (hcall : ∀ args w, (callFunc f args).run Try.prog w = .ok (.enter f args) w)
    (hspec : ∀ (y : Tr) (W : World), Mod (· = g) w W → Calls Try.prog f (#[.agg y.row] ++ lb) W fun e W' => e = .returned (.bool (P y)) ∧ Below W.heap.size W W') :
    CallsIn F q Try.prog 75 #[.pointer (some ⟨g, 0, none⟩), .func (.func f) #[] lb] w fun e w' => e = .returned (.int .i64 (dropN c P (vis c 8))) ∧ TlbAt w' g (dropAt c P (vis c 8)) ∧ Mod (· = g) w w' := by
  have hlt := hT.lt
  have hq1 : 1 ≤ q := by omega
  have HT := hide hT
  have HF := hide hF
  have HS := hide hspec
  have HC := hide hcall
  have hfn := hF.fn
  refine callsIn_of_wp_marks Try.func75 rfl (hF.fn _) ?_ hro
  clear hF hT hspec hcall
  simp only [Try.ntmps75, List.size_toArray, List.length_cons, List.length_nil, Nat.reduceAdd, Nat.reduceSub, Array.replicate_succ, Array.replicate_zero, List.push_toArray, List.append_toArray, List.nil_append, List.cons_append]
  gi_wp2_with (gi_at_call 73; refine (there_in F (q - 1) HF.out hro _ _).mono ?_; rintro e w' ⟨rfl, rfl⟩)
  obtain ⟨W0, hW0⟩ : ∃ W0 : World, (((w.alloc (.cells #[.func (.func f) #[] lb] 164)).alloc (.cells #[.int .i64 0] 3)).alloc (.cells #[.pointer (some ⟨g, 0, none⟩)] 99)) = W0 := ⟨_, rfl⟩
  have b0 : Blk W0 w.heap.size 164 #[.func (.func f) #[] lb] := by rw [← hW0]; exact ((Blk.new w _ _).alloc _).alloc _
  have b1 : Blk W0 (w.heap.size + 1) 3 #[.int .i64 0] := by
    have h := (Blk.new (w.alloc (.cells #[.func (.func f) #[] lb] 164)) 3 #[.int .i64 0]).alloc (.cells #[.pointer (some ⟨g, 0, none⟩)] 99)
    simp only [World.size_alloc] at h
    rw [← hW0]; exact h
  have b2 : Blk W0 (w.heap.size + 1 + 1) 99 #[.pointer (some ⟨g, 0, none⟩)] := by
    have h := Blk.new ((w.alloc (.cells #[.func (.func f) #[] lb] 164)).alloc (.cells #[.int .i64 0] 3)) 99 #[.pointer (some ⟨g, 0, none⟩)]
    simp only [World.size_alloc] at h
    rw [← hW0]; exact h
  have hbw : Below w.heap.size w W0 := by rw [← hW0]; exact (((Below.refl _ w).alloc (Nat.le_refl _) _).alloc (by simp) _).alloc (by simp; omega) _
  have hb0 : Mod (· = g) w W0 := by rw [← hW0]; exact (((Mod.refl _ w).alloc _).alloc _).alloc _
  change Code.wpIn _ _ _ _ _ _ (((w.alloc (.cells #[.func (.func f) #[] lb] 164)).alloc (.cells #[.int .i64 0] 3)).alloc (.cells #[.pointer (some ⟨g, 0, none⟩)] 99))
  rw [hW0]
  clear hW0
  have hT0 := HT.out.below hbw hlt
  have hl4 := b2.lt
  refine' wpIn_iter1 hro hq1 (gf := 89) (lb := _) rfl (hfn _) (enters_of Try.func89 (by kernel_rfl) rfl) (there_iter F (q - 1) HF.out hro (by omega) g _ c W0 hT0 b2)
    (fun pre x A B C D h1 h2 h3 => ?hK) (fun _ _ _ _ h hk => ⟨h.1, h.2.1, h.2.2.1, by obtain ⟨c', h1, h2⟩ := h.2.2.2; exact ⟨c', h1.skips hk, h2⟩⟩) (fun _ _ _ h _ => h) (fun _ => rfl)
    (fun pre W => TlbAt W g (dropAt c P pre) ∧ Blk W w.heap.size 164 #[.func (.func f) #[] lb] ∧ Blk W (w.heap.size + 1) 3 #[.int .i64 (dropN c P pre : Nat)] ∧ Blk W (w.heap.size + 1 + 1) 99 #[.pointer (some ⟨g, 0, none⟩)] ∧ Mod (· = g) w W)
    (fun _ _ _ => False)
    ?hI (fun _ _ _ _ h _ => h) ?h0 _ ?assign ?body ?done (fun _ _ _ _ _ h _ => h.elim)
  case hK =>
    refine ⟨KeepB.skips (fun k hk => by omega) h1 h2.1 h3, fun c' hc' => ?_⟩
    obtain ⟨y, hy⟩ := h2.2 c' (hc'.skips h1)
    exact ⟨y, hy.skips h3⟩
  case hI =>
    rintro s A C ⟨h1, h2, h3, h4, h5⟩ hk
    exact ⟨h1.skips hk, hk.blk h2, hk.blk h3, hk.blk h4, h5.skips hk hb0.size⟩
  case h0 => exact ⟨by rw [dropAt_nil]; exact hT0, b0, b1, b2, hb0⟩
  case assign =>
    intro l x W K hK
    gi_wp2
    exact hK
  case body =>
    rintro l pre x W hl hr ⟨hT, hb, hn, hbt, hm⟩ ⟨hx8, hx0, hpre, _⟩
    have hxp : x ∉ pre := by rw [hpre]; exact fun h => by have := (mem_vis.1 h).1; omega
    have hway : (dropAt c P pre).way x = c.way x := by simp only [dropAt]; rw [if_neg (fun h => hxp h.1)]
    obtain ⟨t0, t1, t2, t3, t4⟩ := hT.cell x hx8
    rw [hway] at t0 t1 t2 t3 t4
    have hplen : dropN c P pre ≤ 8 := Nat.le_trans (dropN_le c P pre) (by rw [hpre]; exact Nat.le_trans (vis_len c x) (by omega))
    have hS : (fun w' : World => w'.cell? ⟨w.heap.size, 0, none⟩ = some (.func (.func f) #[] lb) ∧ w'.cell? ⟨g, pos x, none⟩ = some (.int .i64 (c.way x).sp) ∧ w'.cell? ⟨g, pos x + 1, none⟩ = some (.int .i64 (c.way x).pg) ∧ w'.cell? ⟨g, pos x + 2, none⟩ = some (.int .i64 (c.way x).fr) ∧ w'.cell? ⟨g, pos x + 3, none⟩ = some (.bool (c.way x).rd) ∧ w'.cell? ⟨g, pos x + 4, none⟩ = some (.bool (c.way x).wr)) W.drew := ⟨hb.cell 0, t0, t1, t2, t3, t4⟩
    have HT2 := hide hT
    have Hr := hide hr
    have HP := hide hpre
    have HB := hide hb
    have HN := hide hn
    have HBT := hide hbt
    have HM := hide hm
    clear hT hr hb hn hbt hm t0 t1 t2 t3 t4 hpre hway
    gi_wp2
    have hcall := HC.out
    refine wpIn_region_D 4 (fun w' => w'.cell? ⟨w.heap.size, 0, none⟩ = some (.func (.func f) #[] lb) ∧ w'.cell? ⟨g, pos x, none⟩ = some (.int .i64 (c.way x).sp) ∧ w'.cell? ⟨g, pos x + 1, none⟩ = some (.int .i64 (c.way x).pg) ∧ w'.cell? ⟨g, pos x + 2, none⟩ = some (.int .i64 (c.way x).fr) ∧ w'.cell? ⟨g, pos x + 3, none⟩ = some (.bool (c.way x).rd) ∧ w'.cell? ⟨g, pos x + 4, none⟩ = some (.bool (c.way x).wr)) (HF.out.inRound l) (by kernel_rfl) (fun ⟨_, _, h⟩ => h) (by kernel_rfl) ?_
    refine' wpAnyD_take (i := 0) (oi := ⟨some 10, _, _, _, _, _⟩) (v := _) rfl (by kernel_rfl) (by kernel_rfl) (by kernel_rfl) (by kernel_rfl) (fun _ _ _ h => h) (Or.inl ⟨by rfl, ?_⟩) hS ?_
    rotate_left
    · intro w hSw
      try dsimp only at hSw
      go_simp
      all_goals with_reducible rfl
    simp only [Act.put, List.setIfInBounds_toArray, List.set_cons_zero, List.set_cons_succ]
    refine wpAnyD_ready (rs := [1]) (by kernel_rfl) (by simp) ?_
    refine AllReadyD.cons (o := ⟨some 11, _, _, _, _, _⟩) rfl (fun K hK => ?_) AllReadyD.nil
    go_simp
    refine hK.out _ _ (fun _ => hS) (fun _ => ?_)
    clear hK K
    refine wpAnyD_ready (rs := [2]) (by kernel_rfl) (by simp) ?_
    refine AllReadyD.cons (o := ⟨some 12, _, _, _, _, _⟩) rfl (fun K hK => ?_) AllReadyD.nil
    go_simp
    refine hK.out _ _ (fun _ => hS) (fun _ => ?_)
    clear hK K
    refine wpAnyD_ready (rs := [3]) (by kernel_rfl) (by simp) ?_
    refine AllReadyD.cons (o := ⟨some 13, _, _, _, _, _⟩) rfl (fun K hK => ?_) AllReadyD.nil
    go_simp
    refine hK.out _ _ (fun _ => hS) (fun _ => ?_)
    clear hK K
    refine wpAnyD_ready (rs := [4]) (by kernel_rfl) (by simp) ?_
    refine AllReadyD.cons (o := ⟨some 14, _, _, _, _, _⟩) rfl (fun K hK => ?_) AllReadyD.nil
    go_simp
    refine (HS.out (c.way x) _ HM.out.drew).mono ?_
    rintro e w2 ⟨rfl, hb2⟩
    have hz2 := hb2.size
    have hltW : g < W.heap.size := HT2.out.lt
    have HT3 := hide (HT2.out.drew.below hb2 hltW)
    have HB3 := hide (HB.out.drew.below hb2 HB.out.lt)
    have HN3 := hide (HN.out.drew.below hb2 HN.out.lt)
    have HBT3 := hide (HBT.out.drew.below hb2 HBT.out.lt)
    have HM3 := hide (HM.out.drew.trans ((Mod.of_below hb2 (· = g))))
    have HK3 := hide ((KeepsOthers.drew W).trans ⟨hb2.size, fun k o hk _ => (hb2.block k (Array.getElem?_eq_some_iff.1 hk).1).trans hk⟩)
    have HE3 := hide (show Mod (fun _ => False) W w2 from (Mod.refl (fun _ => False) W).drew.trans (Mod.of_below hb2 _))
    refine hK.out _ _ (fun h => absurd h (by decide)) (fun _ => ?_)
    clear hK K hS hcall hb2
    refine wpAnyD_done (by kernel_rfl) ?_ _
    cases hP : P (c.way x) with
    | true =>
      have HPP := hide hP
      obtain ⟨r0, r1, r2, r3, r4⟩ := HT3.out.cell x hx8
      have q0 := HT3.out.frozen (pos x)
      have q1 := HT3.out.frozen (pos x + 1)
      have q2 := HT3.out.frozen (pos x + 2)
      have q3 := HT3.out.frozen (pos x + 3)
      have q4 := HT3.out.frozen (pos x + 4)
      have r5 := HN3.out.cell 0
      have q5 := HN3.out.frozen 0
      clear hP
      gi_wp2
      have hput := HT3.out.put x hx8 Tr.zero
      rw [dropAt_yes HPP.out] at hput
      have hmp := stored5_mod (Mod.refl (· = g) w2) (g := g) (.inl rfl) (pos x) Tr.zero
      have hgH : ¬ w.heap.size = g := by omega
      have hgH1 : ¬ w.heap.size + 1 = g := by omega
      have hgH2 : ¬ w.heap.size + 1 + 1 = g := by omega
      have hn2 := (HN3.out.mod hmp hgH1).set_ 0 (.int .i64 ((dropN c P pre : Nat) + 1 : Int))
      have hm1 := Mod.one (w.heap.size + 1) (stored5 w2 g (pos x) Tr.zero) 0 (.int .i64 ((dropN c P pre : Nat) + 1 : Int))
      refine ⟨(HK3.out.trans (keeps_set (stored5_keeps (KeepsOthers.refl w2) g (pos x) Tr.zero))).from _, ⟨fun k o hk ho => ?_, fun c' hc' => ⟨Tr.zero, ?_⟩⟩, hput.mod hm1 (by omega), ((HB3.out.mod hmp hgH).mod hm1 (by omega)), ?_, ((HBT3.out.mod hmp hgH2).mod hm1 (by omega)), ?_⟩
      · subst hk
        have hk2 : w.heap.size + 1 + 1 < W.heap.size := (Array.getElem?_eq_some_iff.1 ho).1
        have e1 := HE3.out.block _ hk2 (fun h => h)
        have e2 := hmp.block _ (Nat.lt_of_lt_of_le hk2 HE3.out.size) hgH2
        have e3 := hm1.block (w.heap.size + 1 + 1) (Nat.lt_of_lt_of_le (Nat.lt_of_lt_of_le hk2 HE3.out.size) hmp.size) (by omega)
        exact e3.trans (e2.trans (e1.trans ho))
      · exact ((hc'.mod HE3.out (fun h => h)).put x hx8 Tr.zero).mod hm1 (by omega)
      · rw [dropN_yes HPP.out]
        rw [show (((dropN c P pre + 1 : Nat)) : Int) = ((dropN c P pre : Nat) : Int) + 1 from by push_cast; rfl]
        exact hn2
      · exact ((stored5_mod HM3.out (.inl rfl) (pos x) Tr.zero (g := g)).setCell (p := ⟨w.heap.size + 1, 0, none⟩) (.inr (by simp)) _)
    | false =>
      have HPP := hide hP
      clear hP
      gi_wp2
      refine ⟨HK3.out.from _, ⟨fun k o hk ho => ?_, fun c' hc' => ⟨c'.way x, ?_⟩⟩, ?_, HB3.out, ?_, HBT3.out, HM3.out⟩
      · exact (HE3.out.block _ (Array.getElem?_eq_some_iff.1 ho).1 (fun h => h)).trans ho
      · rw [put_self]; exact hc'.mod HE3.out (fun h => h)
      · rw [dropAt_no HPP.out]; exact HT3.out
      · rw [dropN_no HPP.out]; exact HN3.out
  case done =>
    rintro D xs W hD rfl ⟨hT, hb, hn, hbt, hm⟩ hd
    have c1 := hn.cell 0
    have HT2 := hide hT
    have HM := hide hm
    clear hT hb hn hbt hm
    gi_wp2
    have sk := Skips.putObj (B := W0.heap.size) hd rfl hD (.deferred none)
    refine ⟨by simp, .inl ⟨_, _, rfl, run_takeDeferred hd, ?_⟩⟩
    exact ⟨_, by simp [results, Try.f75, go_sem], rfl, HT2.out.skips sk, HM.out.skips sk hb0.size⟩
theorem drop_in (g : Nat) (c : Cache) (P : Tr → Bool) (f : FuncId) (lb : Array Value) (w : World) (hT : TlbAt w g c)
    (hcall : ∀ args w, (callFunc f args).run Try.prog w = .ok (.enter f args) w)
    (hspec : ∀ (y : Tr) (W : World), Mod (· = g) w W → Calls Try.prog f (#[.agg y.row] ++ lb) W fun e W' => e = .returned (.bool (P y)) ∧ Below W.heap.size W W') :
    Calls Try.prog 75 #[.pointer (some ⟨g, 0, none⟩), .func (.func f) #[] lb] w fun e w' => e = .returned (.int .i64 (dropN c P (vis c 8))) ∧ TlbAt w' g (dropAt c P (vis c 8)) ∧ Mod (· = g) w w' :=
  callsIn_wide.1 (drop_in_F Fence.wide 10 (wideF _) rfl (by omega) g c P f lb w hT hcall hspec)

theorem mod_keeps {g : Nat} {w W : World} {b : Nat} {t : TypeId} {cs : Array Value} (h : Blk w b t cs) (hm : Mod (· = g) w W) (hne : b ≠ g) : Blk W b t cs := h.mod hm hne
set_option maxHeartbeats 1000000 in
theorem dropPage_fn (sp pg : Int) (b1 b2 : Nat) (y : Tr) (W : World) (h1 : Blk W b1 3 #[.int .i64 sp]) (h2 : Blk W b2 3 #[.int .i64 pg]) :
    Calls Try.prog 76 #[.agg y.row, .pointer (some ⟨b1, 0, none⟩), .pointer (some ⟨b2, 0, none⟩)] W fun e W' => e = .returned (.bool (y.sp == sp && y.pg == pg)) ∧ Below W.heap.size W W' := by
  have l1 := h1.lt
  have l2 := h2.lt
  have c1 := h1.cell 0
  have c2 := h2.cell 0
  obtain ⟨a, b, c, d, e⟩ := y
  unfold Tr.row
  dsimp only
  have H1 := hide h1
  have H2 := hide h2
  clear h1 h2
  cases h3 : a == sp with
  | false =>
    go_enter Try.func76, Try.ntmps76
    go_wp2
    go_ret
    exact ⟨rfl, (Below.refl _ _).alloc (Nat.le_refl _) _⟩
  | true =>
    cases h4 : b == pg with
    | false =>
      go_enter Try.func76, Try.ntmps76
      go_wp2
      go_ret
      exact ⟨rfl, (Below.refl _ _).alloc (Nat.le_refl _) _⟩
    | true =>
      go_enter Try.func76, Try.ntmps76
      go_wp2
      go_ret
      exact ⟨rfl, (Below.refl _ _).alloc (Nat.le_refl _) _⟩
set_option maxHeartbeats 1000000 in
theorem dropSpace_fn (sp : Int) (b1 : Nat) (y : Tr) (W : World) (h1 : Blk W b1 3 #[.int .i64 sp]) :
    Calls Try.prog 80 #[.agg y.row, .pointer (some ⟨b1, 0, none⟩)] W fun e W' => e = .returned (.bool (y.sp == sp)) ∧ Below W.heap.size W W' := by
  have l1 := h1.lt
  have c1 := h1.cell 0
  obtain ⟨a, b, c, d, e⟩ := y
  unfold Tr.row
  dsimp only
  have H1 := hide h1
  clear h1
  go_enter Try.func80, Try.ntmps80
  go_wp2
  go_ret
  exact ⟨rfl, (Below.refl _ _).alloc (Nat.le_refl _) _⟩
def isPage (sp pg : Int) (y : Tr) : Bool := y.sp == sp && y.pg == pg
def isSpace (sp : Int) (y : Tr) : Bool := y.sp == sp
set_option maxHeartbeats 1000000 in
theorem dropPage_in (g : Nat) (c : Cache) (sp pg : Int) (w : World) (hT : TlbAt w g c) :
    Calls Try.prog 50 #[.pointer (some ⟨g, 0, none⟩), .int .i64 sp, .int .i64 pg] w fun e w' => e = .returned (.int .i64 (dropN c (isPage sp pg) (vis c 8))) ∧ TlbAt w' g (dropAt c (isPage sp pg) (vis c 8)) ∧ Mod (· = g) w w' := by
  have hlt := hT.lt
  have HT := hide hT
  clear hT
  go_enter Try.func50, Try.ntmps50
  go_wp2_with fail
  have b0 := (Blk.new w 3 #[.int .i64 sp]).alloc (.cells #[.int .i64 pg] 3)
  have b1 := Blk.new (w.alloc (.cells #[.int .i64 sp] 3)) 3 #[.int .i64 pg]
  simp only [World.size_alloc] at b1
  have hm0 : Mod (· = g) w ((w.alloc (.cells #[.int .i64 sp] 3)).alloc (.cells #[.int .i64 pg] 3)) := ((Mod.refl _ w).alloc _).alloc _
  have hT0 := HT.out.below (((Below.refl _ w).alloc (Nat.le_refl _) (.cells #[.int .i64 sp] 3)).alloc (by simp) (.cells #[.int .i64 pg] 3)) hlt
  refine (drop_in g c (isPage sp pg) 76 #[.pointer (some ⟨w.heap.size, 0, none⟩), .pointer (some ⟨w.heap.size + 1, 0, none⟩)] _ hT0 (enters_of Try.func76 (by kernel_rfl) rfl)
    (fun y W hm => dropPage_fn sp pg _ _ y W (b0.mod hm (by omega)) (b1.mod hm (by omega)))).mono ?_
  rintro e w1 ⟨rfl, hT1, hm1⟩
  have HT1 := hide hT1
  have HM1 := hide (hm0.trans hm1)
  clear hT1 hm1 hm0 hT0 b0 b1
  go_wp2_with fail
  go_ret
  exact ⟨rfl, HT1.out, HM1.out⟩
set_option maxHeartbeats 1000000 in
theorem dropSpace_in (g : Nat) (c : Cache) (sp : Int) (w : World) (hT : TlbAt w g c) :
    Calls Try.prog 55 #[.pointer (some ⟨g, 0, none⟩), .int .i64 sp] w fun e w' => e = .returned (.int .i64 (dropN c (isSpace sp) (vis c 8))) ∧ TlbAt w' g (dropAt c (isSpace sp) (vis c 8)) ∧ Mod (· = g) w w' := by
  have hlt := hT.lt
  have HT := hide hT
  clear hT
  go_enter Try.func55, Try.ntmps55
  go_wp2_with fail
  have b0 := Blk.new w 3 #[.int .i64 sp]
  have hm0 : Mod (· = g) w (w.alloc (.cells #[.int .i64 sp] 3)) := (Mod.refl _ w).alloc _
  have hT0 := HT.out.below ((Below.refl _ w).alloc (Nat.le_refl _) (.cells #[.int .i64 sp] 3)) hlt
  refine (drop_in g c (isSpace sp) 80 #[.pointer (some ⟨w.heap.size, 0, none⟩)] _ hT0 (enters_of Try.func80 (by kernel_rfl) rfl)
    (fun y W hm => dropSpace_fn sp _ y W (b0.mod hm (by omega)))).mono ?_
  rintro e w1 ⟨rfl, hT1, hm1⟩
  have HT1 := hide hT1
  have HM1 := hide (hm0.trans hm1)
  clear hT1 hm1 hm0 hT0 b0
  go_wp2_with fail
  go_ret
  exact ⟨rfl, HT1.out, HM1.out⟩
end Go.Proofs.Ytlfenakabedmfaa
namespace Go.Proofs.Ytlfenakabedmfaa
open Go.RowKit Go.Shelf
/-- May a translation be filled in? -/
def mayFill (x : Tr) : Prop := 1 ≤ x.sp ∧ 0 ≤ x.pg ∧ x.pg < 512 ∧ 0 ≤ x.fr ∧ x.fr < 64 ∧ (x.rd = true ∨ x.wr = true)
set_option maxHeartbeats 1000000 in
theorem fill_nil (x : Tr) (w : World) : Calls Try.prog 52 #[.pointer none, .agg x.row] w fun e w' => e = .returned (.int .i64 1) ∧ Below w.heap.size w w' := by
  obtain ⟨a, b, c, d, e⟩ := x
  unfold Tr.row
  dsimp only
  go_enter Try.func52, Try.ntmps52
  go_wp2
  go_step3
  go_wp2
  rw [Exit.noGoto_ret]
  go_ret
  exact ⟨rfl, (Below.refl _ _).alloc (Nat.le_refl _) _⟩

set_option maxHeartbeats 4000000 in
theorem fill_bad (g : Nat) (x : Tr) (w : World) (h : ¬ mayFill x) : Calls Try.prog 52 #[.pointer (some ⟨g, 0, none⟩), .agg x.row] w fun e w' => e = .returned (.int .i64 2) ∧ Below w.heap.size w w' := by
  obtain ⟨a, b, c, d, e⟩ := x
  unfold mayFill at h
  unfold Tr.row
  dsimp only at h ⊢
  by_cases h1 : a < 1
  · clear h
    go_enter Try.func52, Try.ntmps52
    go_wp2
    go_step3
    go_wp2
    rw [Exit.noGoto_ret]
    go_ret
    exact ⟨rfl, (Below.refl _ _).alloc (Nat.le_refl _) _⟩
  by_cases h2 : b < 0
  · clear h
    go_enter Try.func52, Try.ntmps52
    go_wp2
    go_step3
    go_wp2
    rw [Exit.noGoto_ret]
    go_ret
    exact ⟨rfl, (Below.refl _ _).alloc (Nat.le_refl _) _⟩
  by_cases h3 : 512 ≤ b
  · clear h
    go_enter Try.func52, Try.ntmps52
    go_wp2
    go_step3
    go_wp2
    rw [Exit.noGoto_ret]
    go_ret
    exact ⟨rfl, (Below.refl _ _).alloc (Nat.le_refl _) _⟩
  by_cases h4 : c < 0
  · clear h
    go_enter Try.func52, Try.ntmps52
    go_wp2
    go_step3
    go_wp2
    rw [Exit.noGoto_ret]
    go_ret
    exact ⟨rfl, (Below.refl _ _).alloc (Nat.le_refl _) _⟩
  by_cases h5 : 64 ≤ c
  · clear h
    go_enter Try.func52, Try.ntmps52
    go_wp2
    go_step3
    go_wp2
    rw [Exit.noGoto_ret]
    go_ret
    exact ⟨rfl, (Below.refl _ _).alloc (Nat.le_refl _) _⟩
  have hd : d = false := by
    cases d with
    | false => rfl
    | true => exact absurd ⟨by omega, by omega, by omega, by omega, by omega, .inl rfl⟩ h
  have he : e = false := by
    cases e with
    | false => rfl
    | true => exact absurd ⟨by omega, by omega, by omega, by omega, by omega, .inr rfl⟩ h
  subst hd he
  clear h
  go_enter Try.func52, Try.ntmps52
  go_wp2
  go_step3
  go_wp2
  rw [Exit.noGoto_ret]
  go_ret
  exact ⟨rfl, (Below.refl _ _).alloc (Nat.le_refl _) _⟩
end Go.Proofs.Ytlfenakabedmfaa
