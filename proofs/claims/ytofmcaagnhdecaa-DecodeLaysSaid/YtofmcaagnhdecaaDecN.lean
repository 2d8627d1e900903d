/- The walk of decode.Encode. -/
import Derived.Test.YtofmcaagnhdecaaDecA
import Derived.Test.YtofmcaagnhdecaaDecL
import Derived.Test.YtofmcaagnhdecaaDecQ
import Derived.Test.YtofmcaagnhdecaaDecF
import Derived.Test.YtofmcaagnhdecaaMarks
import Derived.Deep.RegionHeld3
namespace Go.Proofs.Ytofmcaagnhdecaa
open Go.RowKit Go.Shelf

/-- The order whose words are laid: of what is made, the count apart. -/
def encM (m : Nat → Int) : Nat → Int := if m 0 = 1 then (fun j => if j = 6 then m 6 % 16 else if j = 12 then m 6 / 16 else m j) else (fun j => if j = 12 then 0 else m j)
def getM (m : Nat → Int) (t : Nat) : Int := if isW t then m t else IntKind.u64.wrap (m t)
def encX (m : Nat → Int) : Nat → Int := match formL (m 0) with
  | some fs => fun k => match fs[k]? with | some f => getM (encM m) f.2.2 | none => 0
  | none => fun _ => 0
/-- A call, and the error's number. -/
def encV (m : Nat → Int) : (Int × (Nat → Int)) × Int :=
  if m 0 < 0 ∨ m 6 < 0 then ((0, fun _ => 0), 5) else if (decV (m 0) (encX m)).2 = 0 ∧ ordB (decV (m 0) (encX m)).1 m = true then ((m 0, encX m), 0) else ((0, fun _ => 0), 5)
def EncPost (r : (Int × (Nat → Int)) × Int) (w : World) (e : Ending) (w' : World) : Prop := e = .returned (.tuple #[.agg (callA r.1.1 r.1.2), .int .i64 r.2]) ∧ Below w.heap.size w w'
theorem callA_set (op : Int) (x : Nat → Int) (k : Nat) (v : Int) (hk : k < 6) : (callA op x).setIfInBounds (k + 1) (.int .u64 v) = callA op (fun j => if j = k then v else x j) := by
  have : k = 0 ∨ k = 1 ∨ k = 2 ∨ k = 3 ∨ k = 4 ∨ k = 5 := by omega
  rcases this with rfl | rfl | rfl | rfl | rfl | rfl <;> rfl
theorem callA_congr {op : Int} {x y : Nat → Int} (h : ∀ j, j < 6 → x j = y j) : callA op x = callA op y := by
  unfold callA
  rw [h 0 (by decide), h 1 (by decide), h 2 (by decide), h 3 (by decide), h 4 (by decide), h 5 (by decide)]
theorem callA_cell (op : Int) (x : Nat → Int) (k : Nat) (hk : k < 6) : (callA op x)[k + 1]? = some (.int .u64 (x k)) := by
  have : k = 0 ∨ k = 1 ∨ k = 2 ∨ k = 3 ∨ k = 4 ∨ k = 5 := by omega
  rcases this with rfl | rfl | rfl | rfl | rfl | rfl <;> rfl
/-- The first k words. -/
def encK (m : Nat → Int) (k : Nat) : Nat → Int := fun j => if j < k then encX m j else 0
theorem encK_succ (m : Nat → Int) (k : Nat) : (fun j => if j = k then encX m k else encK m k j) = encK m (k + 1) := by
  funext j
  unfold encK
  by_cases h : j = k
  · subst h; rw [if_pos rfl, if_pos (by omega)]
  · rw [if_neg h]
    by_cases h2 : j < k
    · rw [if_pos h2, if_pos (by omega)]
    · rw [if_neg h2, if_neg (by omega)]
theorem u64_bd (n : Int) : 0 ≤ IntKind.u64.wrap n ∧ IntKind.u64.wrap n < 18446744073709551616 := by
  unfold IntKind.wrap
  simp [IntKind.signed, IntKind.bits]
  omega
theorem encX_u (m : Nat → Int) (hm : OrdB m) : U64 (encX m) := by
  intro k
  unfold encX
  cases hf : formL (m 0) with
  | none => exact ⟨Int.le_refl _, by show (0 : Int) < 18446744073709551616; decide⟩
  | some fs =>
    dsimp only
    cases hk : fs[k]? with
    | none => exact ⟨Int.le_refl _, by show (0 : Int) < 18446744073709551616; decide⟩
    | some f =>
      dsimp only
      unfold getM
      by_cases hw : isW f.2.2 = true
      · rw [if_pos hw]
        have h7 : 7 ≤ f.2.2 ∧ f.2.2 ≤ 11 := by simpa [isW] using hw
        have e : encM m f.2.2 = m f.2.2 := by
          unfold encM
          split
          · show (if f.2.2 = 6 then _ else if f.2.2 = 12 then _ else m f.2.2) = _
            rw [if_neg (by omega), if_neg (by omega)]
          · show (if f.2.2 = 12 then _ else m f.2.2) = _
            rw [if_neg (by omega)]
        rw [e]
        exact (hm _).2 h7.1
      · rw [if_neg hw]
        exact u64_bd _
theorem Blk.f7 {w : World} {g : Nat} {t : TypeId} {cs : Array Value} (h : Blk w g t cs) : w.frozen? ⟨g, 0, none⟩ = false ∧ w.frozen? ⟨g, 1, none⟩ = false ∧ w.frozen? ⟨g, 2, none⟩ = false ∧ w.frozen? ⟨g, 3, none⟩ = false ∧ w.frozen? ⟨g, 4, none⟩ = false ∧ w.frozen? ⟨g, 5, none⟩ = false ∧ w.frozen? ⟨g, 6, none⟩ = false :=
  ⟨h.frozen 0, h.frozen 1, h.frozen 2, h.frozen 3, h.frozen 4, h.frozen 5, h.frozen 6⟩
set_option maxRecDepth 100000 in
theorem enc_neg0 (m : Nat → Int) (w : World) (h : m 0 < 0) : Calls Try.prog 12 #[.agg (ordA m)] w (EncPost (encV m) w) := by
  have hV : encV m = ((0, fun _ => 0), 5) := by unfold encV; rw [if_pos (by omega)]
  rw [hV]
  clear hV
  rw [show ordA m = #[.int .i64 (m 0), .int .i64 (m 1), .int .i64 (m 2), .int .i64 (m 3), .int .i64 (m 4), .int .i64 (m 5), .int .i64 (m 6), .int .u64 (m 7), .int .u64 (m 8), .int .u64 (m 9), .int .u64 (m 10), .int .u64 (m 11)] from rfl]
  go_enter Try.func12, Try.ntmps12
  go_wp2_with fail
  refine bodyPost_ret (results_cell_tmp rfl _ _ (w.heap.size + 1) 25 #[.int .u64 0, .int .u64 0, .int .u64 0, .int .u64 0, .int .u64 0, .int .u64 0, .int .u64 0] (0, 0) _ rfl ?_ Try.underlying25 rfl (by kernel_rfl)) rfl ⟨rfl, ?_⟩
  · have h2 := Blk.new (w.alloc (.cells #[.int .i64 (m 0), .int .i64 (m 1), .int .i64 (m 2), .int .i64 (m 3), .int .i64 (m 4), .int .i64 (m 5), .int .i64 (m 6), .int .u64 (m 7), .int .u64 (m 8), .int .u64 (m 9), .int .u64 (m 10), .int .u64 (m 11)] 29)) 25 #[.int .u64 0, .int .u64 0, .int .u64 0, .int .u64 0, .int .u64 0, .int .u64 0, .int .u64 0]
    simp only [World.size_alloc] at h2
    exact h2
  · exact ((Below.refl _ w).alloc (Nat.le_refl _) _).alloc (by simp) _
set_option maxRecDepth 100000 in
theorem enc_neg6 (m : Nat → Int) (w : World) (h0 : 0 ≤ m 0) (h : m 6 < 0) : Calls Try.prog 12 #[.agg (ordA m)] w (EncPost (encV m) w) := by
  have hV : encV m = ((0, fun _ => 0), 5) := by unfold encV; rw [if_pos (by omega)]
  rw [hV]
  clear hV
  rw [show ordA m = #[.int .i64 (m 0), .int .i64 (m 1), .int .i64 (m 2), .int .i64 (m 3), .int .i64 (m 4), .int .i64 (m 5), .int .i64 (m 6), .int .u64 (m 7), .int .u64 (m 8), .int .u64 (m 9), .int .u64 (m 10), .int .u64 (m 11)] from rfl]
  go_enter Try.func12, Try.ntmps12
  go_wp2_with fail
  refine bodyPost_ret (results_cell_tmp rfl _ _ (w.heap.size + 1) 25 #[.int .u64 0, .int .u64 0, .int .u64 0, .int .u64 0, .int .u64 0, .int .u64 0, .int .u64 0] (0, 0) _ rfl ?_ Try.underlying25 rfl (by kernel_rfl)) rfl ⟨rfl, ?_⟩
  · have h2 := Blk.new (w.alloc (.cells #[.int .i64 (m 0), .int .i64 (m 1), .int .i64 (m 2), .int .i64 (m 3), .int .i64 (m 4), .int .i64 (m 5), .int .i64 (m 6), .int .u64 (m 7), .int .u64 (m 8), .int .u64 (m 9), .int .u64 (m 10), .int .u64 (m 11)] 29)) 25 #[.int .u64 0, .int .u64 0, .int .u64 0, .int .u64 0, .int .u64 0, .int .u64 0, .int .u64 0]
    simp only [World.size_alloc] at h2
    exact h2
  · exact ((Below.refl _ w).alloc (Nat.le_refl _) _).alloc (by simp) _
theorem Blk.set7 {w : World} {g : Nat} {t : TypeId} {c0 c1 c2 c3 c4 c5 c6 : Value} (h : Blk w g t #[c0, c1, c2, c3, c4, c5, c6]) (v0 v1 v2 v3 v4 v5 v6 : Value) : Blk (((((((w.setCell ⟨g, 0, none⟩ v0).setCell ⟨g, 1, none⟩ v1).setCell ⟨g, 2, none⟩ v2).setCell ⟨g, 3, none⟩ v3).setCell ⟨g, 4, none⟩ v4).setCell ⟨g, 5, none⟩ v5).setCell ⟨g, 6, none⟩ v6) g t #[v0, v1, v2, v3, v4, v5, v6] := by
  have h' := (((((((h.set_ 0 v0).set_ 1 v1).set_ 2 v2).set_ 3 v3).set_ 4 v4).set_ 5 v5).set_ 6 v6)
  simpa only [List.setIfInBounds_toArray, List.set_cons_zero, List.set_cons_succ] using h'
theorem below_set7 {B : Nat} {a w : World} (hb : Below B a w) {g : Nat} (hg : B ≤ g) (v0 v1 v2 v3 v4 v5 v6 : Value) : Below B a (((((((w.setCell ⟨g, 0, none⟩ v0).setCell ⟨g, 1, none⟩ v1).setCell ⟨g, 2, none⟩ v2).setCell ⟨g, 3, none⟩ v3).setCell ⟨g, 4, none⟩ v4).setCell ⟨g, 5, none⟩ v5).setCell ⟨g, 6, none⟩ v6) := (((((((hb.setCell (p := ⟨g, 0, none⟩) hg v0).setCell (p := ⟨g, 1, none⟩) hg v1).setCell (p := ⟨g, 2, none⟩) hg v2).setCell (p := ⟨g, 3, none⟩) hg v3).setCell (p := ⟨g, 4, none⟩) hg v4).setCell (p := ⟨g, 5, none⟩) hg v5).setCell (p := ⟨g, 6, none⟩) hg v6)
/-- The forms of an order's operation, none if there is none. -/
def formG (op : Int) : List (Int × Int × Nat) := (formL op).getD []
theorem encX_G (m : Nat → Int) (k : Nat) : encX m k = match (formG (m 0))[k]? with | some f => getM (encM m) f.2.2 | none => 0 := by
  unfold encX formG
  cases formL (m 0) <;> rfl
def FG (op : Int) (g gc : Nat) (w : World) (e : Ending) (w' : World) : Prop :=
  (∃ (p : Option Addr) (gl cap : Nat) (cs : Array Value) (b : Bool), e = .returned (.tuple #[.slice p (formG op).length cap, .bool b]) ∧ ((formG op).length = 0 ∨ p = some ⟨gl, 0, none⟩) ∧ ((formG op).length = 0 ∨ (w.heap.size ≤ gl ∧ Blk w' gl 57 cs)) ∧ (∀ (k i : Nat) (f : Int × Int × Nat), (formG op)[k]? = some f → i < 4 → cs[k * 4 + i]? = (fcell g gc f)[i]?)) ∧ Below w.heap.size w w'
theorem forms_G (op : Int) (g gc : Nat) (w : World) : Calls Try.prog 14 #[.int .u64 op, .pointer (some ⟨g, 0, none⟩), .pointer (some ⟨gc, 0, none⟩)] w (FG op g gc w) := by
  cases hf : formL op with
  | none =>
    refine (forms_none op g gc w hf).mono ?_
    rintro e w' ⟨rfl, hb⟩
    have hG : formG op = [] := by unfold formG; rw [hf]; rfl
    refine ⟨⟨none, 0, 0, #[], false, by rw [hG]; rfl, .inl (by rw [hG]; rfl), .inl (by rw [hG]; rfl), fun k i f hk _ => ?_⟩, hb⟩
    rw [hG] at hk
    cases hk
  | some fs =>
    refine (forms_any op g gc w).mono ?_
    rintro e w' ⟨⟨v, b, rfl, _, hfs⟩, hb⟩
    have hG : formG op = fs := by unfold formG; rw [hf]; rfl
    obtain ⟨p, gl, cap, cs, rfl, hp, hgl, hcs⟩ := (hfs _ hf).open_
    rw [← hG] at hp hgl hcs ⊢
    exact ⟨⟨p, gl, cap, cs, b, rfl, hp, hgl, hcs⟩, hb⟩
theorem formG_ok (op : Int) : (formG op).length ≤ 6 ∧ (formG op).all okF = true := by
  unfold formG
  cases hf : formL op with
  | none => exact ⟨Nat.zero_le _, rfl⟩
  | some fs => exact ⟨(formL_ok hf).1, (formL_ok hf).2.1⟩
/-- What Encode has laid when k words are there. -/
structure EncI (w : World) (H : Nat) (m : Nat → Int) (k : Nat) (W : World) : Prop where
  box : Blk W H 29 (ordA m)
  res : Blk W (H + 1) 25 (callA 0 fun _ => 0)
  c : Blk W (H + 1 + 1) 25 (callA (m 0) (encK m k))
  x : Blk W (H + 1 + 1 + 1) 29 (ordA (encM m))
  cnt : Blk W (H + 1 + 1 + 1 + 1) 3 #[.int .i64 (encM m 12)]
  below : Below H w W
  size : H + 5 ≤ W.heap.size
section
variable {w W W' : World} {H k : Nat} {m : Nat → Int}
theorem EncI.bel (h : EncI w H m k W) (hb : Below W.heap.size W W') : EncI w H m k W' :=
  ⟨blk_call h.box hb, blk_call h.res hb, blk_call h.c hb, blk_call h.x hb, blk_call h.cnt hb, h.below.trans (hb.mono (by have := h.size; omega)), by have := h.size; have := hb.size; omega⟩
theorem EncI.alloc (h : EncI w H m k W) (o : Obj) : EncI w H m k (W.alloc o) := h.bel ((Below.refl _ W).alloc (Nat.le_refl _) o)
theorem EncI.step (h : EncI w H m k W) (hk : k < 6) : EncI w H m (k + 1) (W.setCell ⟨H + 1 + 1, 1 + k, none⟩ (.int .u64 (encX m k))) := by
  rw [Nat.add_comm 1 k]
  have hc := h.c.set_ (k + 1) (.int .u64 (encX m k))
  rw [callA_set _ _ _ _ hk, encK_succ] at hc
  exact ⟨h.box.far (by show _ ≠ H + 1 + 1; omega) _, h.res.far (by show _ ≠ H + 1 + 1; omega) _, hc, h.x.far (by show _ ≠ H + 1 + 1; omega) _, h.cnt.far (by show _ ≠ H + 1 + 1; omega) _, h.below.setCell (by show _ ≤ H + 1 + 1; omega) _, by simpa [World.setCell] using h.size⟩
end
theorem enc_w5 {w : World} {t0 t1 t2 t3 t4 : TypeId} (c0 c1 c2 c3 c4 : Array Value) : Blk (((((w.alloc (.cells c0 t0)).alloc (.cells c1 t1)).alloc (.cells c2 t2)).alloc (.cells c3 t3)).alloc (.cells c4 t4)) w.heap.size t0 c0 ∧ Blk (((((w.alloc (.cells c0 t0)).alloc (.cells c1 t1)).alloc (.cells c2 t2)).alloc (.cells c3 t3)).alloc (.cells c4 t4)) (w.heap.size + 1) t1 c1 ∧
    Blk (((((w.alloc (.cells c0 t0)).alloc (.cells c1 t1)).alloc (.cells c2 t2)).alloc (.cells c3 t3)).alloc (.cells c4 t4)) (w.heap.size + 1 + 1) t2 c2 ∧ Blk (((((w.alloc (.cells c0 t0)).alloc (.cells c1 t1)).alloc (.cells c2 t2)).alloc (.cells c3 t3)).alloc (.cells c4 t4)) (w.heap.size + 1 + 1 + 1) t3 c3 ∧
    Blk (((((w.alloc (.cells c0 t0)).alloc (.cells c1 t1)).alloc (.cells c2 t2)).alloc (.cells c3 t3)).alloc (.cells c4 t4)) (w.heap.size + 1 + 1 + 1 + 1) t4 c4 ∧ Below w.heap.size w (((((w.alloc (.cells c0 t0)).alloc (.cells c1 t1)).alloc (.cells c2 t2)).alloc (.cells c3 t3)).alloc (.cells c4 t4)) ∧
    w.heap.size + 5 ≤ (((((w.alloc (.cells c0 t0)).alloc (.cells c1 t1)).alloc (.cells c2 t2)).alloc (.cells c3 t3)).alloc (.cells c4 t4)).heap.size := by
  have b0 := ((((Blk.new w t0 c0).alloc (.cells c1 t1)).alloc (.cells c2 t2)).alloc (.cells c3 t3)).alloc (.cells c4 t4)
  have b1 := (((Blk.new (w.alloc (.cells c0 t0)) t1 c1).alloc (.cells c2 t2)).alloc (.cells c3 t3)).alloc (.cells c4 t4)
  have b2 := ((Blk.new ((w.alloc (.cells c0 t0)).alloc (.cells c1 t1)) t2 c2).alloc (.cells c3 t3)).alloc (.cells c4 t4)
  have b3 := (Blk.new (((w.alloc (.cells c0 t0)).alloc (.cells c1 t1)).alloc (.cells c2 t2)) t3 c3).alloc (.cells c4 t4)
  have b4 := Blk.new ((((w.alloc (.cells c0 t0)).alloc (.cells c1 t1)).alloc (.cells c2 t2)).alloc (.cells c3 t3)) t4 c4
  have hb := (((((Below.refl _ w).alloc (Nat.le_refl _) (.cells c0 t0)).alloc (by simp) (.cells c1 t1)).alloc (by simp; omega) (.cells c2 t2)).alloc (by simp; omega) (.cells c3 t3)).alloc (by simp; omega) (.cells c4 t4)
  simp only [World.size_alloc] at b1 b2 b3 b4
  exact ⟨b0, b1, b2, b3, b4, hb, by simp⟩
theorem encM_n {m : Nat → Int} (h : ¬ m 0 = 1) : ordA (encM m) = ordA m ∧ encM m 12 = 0 := by
  unfold encM
  rw [if_neg h]
  exact ⟨rfl, rfl⟩
theorem encM_1 {m : Nat → Int} (h : m 0 = 1) : ordA (encM m) = ordA (fun j => if j = 6 then m 6 % 16 else m j) ∧ encM m 12 = m 6 / 16 := by
  unfold encM
  rw [if_pos h]
  exact ⟨rfl, rfl⟩
theorem encK_all (m : Nat → Int) (n : Nat) (hn : (formG (m 0)).length ≤ n) : callA (m 0) (encK m n) = callA (m 0) (encX m) := by
  refine callA_congr fun j _ => ?_
  unfold encK
  by_cases h : j < n
  · rw [if_pos h]
  · rw [if_neg h, encX_G, List.getElem?_eq_none (by omega)]
theorem keep_set {w : World} {g C o j : Nat} {u v : Value} (hne : C ≠ g) (hlt : C < w.heap.size) (h : w.cell? ⟨C, o, none⟩ = some v) : (w.setCell ⟨g, j, none⟩ u).drew.cell? ⟨C, o, none⟩ = some v := by
  rw [drew_cell]
  exact ((Mod.one g w j u).cell hne hlt).trans h
theorem keep_set2 {w : World} {g C o j g' j' : Nat} {u v u' : Value} (hne : C ≠ g) (hne' : C ≠ g') (hlt : C < w.heap.size) (h : w.cell? ⟨C, o, none⟩ = some v) : ((w.setCell ⟨g, j, none⟩ u).setCell ⟨g', j', none⟩ u').drew.cell? ⟨C, o, none⟩ = some v := by
  rw [drew_cell]
  exact ((Mod.one g' (w.setCell ⟨g, j, none⟩ u) j' u').cell hne' (by simpa [World.setCell] using hlt)).trans (((Mod.one g w j u).cell hne hlt).trans h)
theorem enc_other {w W : World} {H : Nat} {m : Nat → Int} (c0 : Blk W H 29 (ordA m)) (c1 : Blk W (H + 1) 25 (callA 0 fun _ => 0)) (c2 : Blk W (H + 1 + 1) 25 (callA (m 0) fun _ => 0)) (c3 : Blk W (H + 1 + 1 + 1) 29 (ordA m)) (c4 : Blk W (H + 1 + 1 + 1 + 1) 3 #[.int .i64 0]) (hB : Below H w W) (hz : H + 5 ≤ W.heap.size) (h1 : ¬ m 0 = 1) : EncI w H m 0 W := by
  obtain ⟨e1, e2⟩ := encM_n h1
  exact ⟨c0, c1, c2, by rw [e1]; exact c3, by rw [e2]; exact c4, hB, hz⟩
theorem enc_one {w W : World} {H : Nat} {m : Nat → Int} (c0 : Blk W H 29 (ordA m)) (c1 : Blk W (H + 1) 25 (callA 0 fun _ => 0)) (c2 : Blk W (H + 1 + 1) 25 (callA (m 0) fun _ => 0)) (c3 : Blk W (H + 1 + 1 + 1) 29 (ordA m)) (c4 : Blk W (H + 1 + 1 + 1 + 1) 3 #[.int .i64 0]) (hB : Below H w W) (hz : H + 5 ≤ W.heap.size) (h1 : m 0 = 1) (h6 : 0 ≤ m 6) (b6 : m 6 ≤ 9223372036854775807) :
    EncI w H m 0 ((W.setCell ⟨H + 1 + 1 + 1, 6, none⟩ (.int .i64 ((m 6).tmod 16))).setCell ⟨H + 1 + 1 + 1 + 1, 0, none⟩ (.int .i64 (IntKind.i64.wrap ((m 6).tdiv 16)))).drew ∧
    EncI w H m 0 ((W.setCell ⟨H + 1 + 1 + 1 + 1, 0, none⟩ (.int .i64 (IntKind.i64.wrap ((m 6).tdiv 16)))).setCell ⟨H + 1 + 1 + 1, 6, none⟩ (.int .i64 ((m 6).tmod 16))).drew := by
  obtain ⟨e1, e2⟩ := encM_1 h1
  have f1 : (m 6).tmod 16 = m 6 % 16 := Int.tmod_eq_emod_of_nonneg h6
  have f2 : IntKind.i64.wrap ((m 6).tdiv 16) = m 6 / 16 := by
    rw [Int.tdiv_eq_ediv_of_nonneg h6]
    exact IntWalk.i64_in _ (by omega)
  rw [f1, f2]
  have x3 := c3.set_ 6 (.int .i64 (m 6 % 16))
  rw [ordA_n _ _ _ (by decide), ← e1] at x3
  have x4 := c4.set_ 0 (.int .i64 (m 6 / 16))
  simp only [List.setIfInBounds_toArray, List.set_cons_zero] at x4
  rw [← e2] at x4 ⊢
  constructor
  · refine ⟨((c0.far (by show _ ≠ H + 1 + 1 + 1; omega) _).far (by show _ ≠ H + 1 + 1 + 1 + 1; omega) _).drew, ((c1.far (by show _ ≠ H + 1 + 1 + 1; omega) _).far (by show _ ≠ H + 1 + 1 + 1 + 1; omega) _).drew, ((c2.far (by show _ ≠ H + 1 + 1 + 1; omega) _).far (by show _ ≠ H + 1 + 1 + 1 + 1; omega) _).drew, (x3.far (by show _ ≠ H + 1 + 1 + 1 + 1; omega) _).drew, ?_, ((hB.setCell (by show _ ≤ H + 1 + 1 + 1; omega) _).setCell (by show _ ≤ H + 1 + 1 + 1 + 1; omega) _).drew, by simpa [World.setCell] using hz⟩
    have := (c4.far (p := ⟨H + 1 + 1 + 1, 6, none⟩) (by show _ ≠ H + 1 + 1 + 1; omega) (.int .i64 (m 6 % 16))).set_ 0 (.int .i64 (encM m 12))
    simp only [List.setIfInBounds_toArray, List.set_cons_zero] at this
    exact this.drew
  · refine ⟨((c0.far (by show _ ≠ H + 1 + 1 + 1 + 1; omega) _).far (by show _ ≠ H + 1 + 1 + 1; omega) _).drew, ((c1.far (by show _ ≠ H + 1 + 1 + 1 + 1; omega) _).far (by show _ ≠ H + 1 + 1 + 1; omega) _).drew, ((c2.far (by show _ ≠ H + 1 + 1 + 1 + 1; omega) _).far (by show _ ≠ H + 1 + 1 + 1; omega) _).drew, ?_, (x4.far (by show _ ≠ H + 1 + 1 + 1; omega) _).drew, ((hB.setCell (by show _ ≤ H + 1 + 1 + 1 + 1; omega) _).setCell (by show _ ≤ H + 1 + 1 + 1; omega) _).drew, by simpa [World.setCell] using hz⟩
    have := (c3.far (p := ⟨H + 1 + 1 + 1 + 1, 0, none⟩) (by show _ ≠ H + 1 + 1 + 1 + 1; omega) (.int .i64 (encM m 12))).set_ 6 (.int .i64 (m 6 % 16))
    rw [ordA_n _ _ _ (by decide), ← e1] at this
    exact this.drew
set_option maxRecDepth 100000 in
set_option maxHeartbeats 4000000 in
theorem enc_main (m : Nat → Int) (w : World) (hm : OrdB m) (h0 : 0 ≤ m 0) (h6 : 0 ≤ m 6) : Calls Try.prog 12 #[.agg (ordA m)] w (EncPost (encV m) w) := by
  have b0 := ((hm 0).1 (by decide)).2
  have b6 := ((hm 6).1 (by decide)).2
  have d0 : decide (m 0 < 0) = false := by simpa using h0
  have d6 : decide (m 6 < 0) = false := by simpa using h6
  have HM := hide hm
  clear hm
  rw [show ordA m = #[.int .i64 (m 0), .int .i64 (m 1), .int .i64 (m 2), .int .i64 (m 3), .int .i64 (m 4), .int .i64 (m 5), .int .i64 (m 6), .int .u64 (m 7), .int .u64 (m 8), .int .u64 (m 9), .int .u64 (m 10), .int .u64 (m 11)] from rfl]
  by_cases h1 : m 0 = 1
  · have d1 : ((m 0 : Int) == 1) = true := by simpa using h1
    have HE := hide h1
    clear h1
    go_enter Try.func12, Try.ntmps12
    go_wp2
    obtain ⟨c0, c1, c2, c3, c4, hB, hz⟩ := enc_w5 (w := w) (t0 := 29) (t1 := 25) (t2 := 25) (t3 := 29) (t4 := 3) #[.int .i64 (m 0), .int .i64 (m 1), .int .i64 (m 2), .int .i64 (m 3), .int .i64 (m 4), .int .i64 (m 5), .int .i64 (m 6), .int .u64 (m 7), .int .u64 (m 8), .int .u64 (m 9), .int .u64 (m 10), .int .u64 (m 11)] #[.int .u64 0, .int .u64 0, .int .u64 0, .int .u64 0, .int .u64 0, .int .u64 0, .int .u64 0] #[.int .u64 (m 0), .int .u64 0, .int .u64 0, .int .u64 0, .int .u64 0, .int .u64 0, .int .u64 0] #[.int .i64 (m 0), .int .i64 (m 1), .int .i64 (m 2), .int .i64 (m 3), .int .i64 (m 4), .int .i64 (m 5), .int .i64 (m 6), .int .u64 (m 7), .int .u64 (m 8), .int .u64 (m 9), .int .u64 (m 10), .int .u64 (m 11)] #[.int .i64 0]
    generalize ((((w.alloc (.cells #[.int .i64 (m 0), .int .i64 (m 1), .int .i64 (m 2), .int .i64 (m 3), .int .i64 (m 4), .int .i64 (m 5), .int .i64 (m 6), .int .u64 (m 7), .int .u64 (m 8), .int .u64 (m 9), .int .u64 (m 10), .int .u64 (m 11)] 29)).alloc (.cells #[.int .u64 0, .int .u64 0, .int .u64 0, .int .u64 0, .int .u64 0, .int .u64 0, .int .u64 0] 25)).alloc (.cells #[.int .u64 (m 0), .int .u64 0, .int .u64 0, .int .u64 0, .int .u64 0, .int .u64 0, .int .u64 0] 25)).alloc (.cells #[.int .i64 (m 0), .int .i64 (m 1), .int .i64 (m 2), .int .i64 (m 3), .int .i64 (m 4), .int .i64 (m 5), .int .i64 (m 6), .int .u64 (m 7), .int .u64 (m 8), .int .u64 (m 9), .int .u64 (m 10), .int .u64 (m 11)] 29)).alloc (.cells #[.int .i64 0] 3) = W at *
    generalize hH : w.heap.size = H at *
    have HH := hide hH
    clear hH
    have g6 : W.cell? ⟨H, 6, none⟩ = some (.int .i64 (m 6)) := c0.cell 6
    have n3 : H ≠ H + 1 + 1 + 1 := by omega
    have n4 : H ≠ H + 1 + 1 + 1 + 1 := by omega
    have x6 := c3.cell 6
    have z6 := c3.frozen 6
    have y0 := c4.cell 0
    have y1 := c4.frozen 0
    have gd : W.drew.cell? ⟨H, 6, none⟩ = some (.int .i64 (m 6)) := g6
    have HzH := hide hz
    have hzl : H < W.heap.size := by omega
    go_region_held3 (fun w' => w'.cell? ⟨H, 6, none⟩ = some (.int .i64 (m 6))) (first | with_reducible assumption | with_reducible exact keep_set n3 hzl g6 | with_reducible exact keep_set n4 hzl g6 | with_reducible exact keep_set2 n3 n4 hzl g6 | with_reducible exact keep_set2 n4 n3 hzl g6) (fail)
    all_goals
      have hI := enc_one c0 c1 c2 c3 c4 hB HzH.out HE.out h6 b6
      clear c0 c1 c2 c3 c4 hB hz g6 x6 z6 y0 y1 gd n3 n4 hzl
      replace hI := hI.1
      generalize ((W.setCell ⟨H + 1 + 1 + 1, 6, none⟩ (.int .i64 ((m 6).tmod 16))).setCell ⟨H + 1 + 1 + 1 + 1, 0, none⟩ (.int .i64 (IntKind.i64.wrap ((m 6).tdiv 16)))).drew = W1 at *
      have hc0 : W1.cell? ⟨H + 1 + 1, 0, none⟩ = some (.int .u64 (m 0)) := hI.c.cell 0
      go_wp2_with fail
      clear hc0
      have H0 := hide h0
      clear d1 d0 d6 h0 b6
      refine (forms_G (m 0) _ _ _).mono ?_
      rintro e w2 ⟨⟨p, gl, cap, cs, b, rfl, hp, hgl, hcs⟩, hb2⟩
      have hI2 := hI.bel hb2
      have hHs := hI.size
      have hgl' : (formG (m 0)).length = 0 ∨ (H + 5 ≤ gl ∧ Blk w2 gl 57 cs) := hgl.imp id fun h => ⟨by omega, h.2⟩
      clear hI hgl hb2 hHs
      obtain ⟨hn6, hok⟩ := formG_ok (m 0)
      have HOK := hide hok
      have HCS := hide hcs
      have HP := hide hp
      have HGL := hide hgl'
      clear hok hcs hp hgl'
      generalize hfs : formG (m 0) = fs at *
      have HFS := hide hfs
      clear hfs
      go_wp2
      go_loopw [49] (fun i wr => ∃ k : Nat, k ≤ fs.length ∧ i = .int .i64 k ∧ EncI w H m k wr ∧ (fs.length = 0 ∨ Blk wr gl 57 cs)) (fun i _ => 6 - (intOf i).toNat)
      case atStart => exact ⟨0, Nat.zero_le _, rfl, hI2, HGL.out.imp id fun h => h.2⟩
      case round =>
        obtain ⟨k, hk, rfl, hIk, hgk⟩ := hrel
        clear hI2
        by_cases hkn : k < fs.length
        · obtain ⟨⟨lo, hi, t⟩, hf⟩ : ∃ f, fs[k]? = some f := ⟨_, List.getElem?_eq_getElem hkn⟩
          obtain ⟨b1, b2, b3, b4, b5, b6⟩ := okF_w (List.all_eq_true.1 HOK.out _ (List.mem_of_getElem? hf))
          dsimp only at b5 b6
          clear b1 b2 b3 b4
          have hX : encX m k = getM (encM m) t := by rw [encX_G, HFS.out, hf]
          have hgb : Blk wr gl 57 cs := hgk.resolve_left (by omega)
          have hge : H + 5 ≤ gl := by
            rcases HGL.out with h | h
            · omega
            · exact h.1
          obtain rfl := HP.out.resolve_left (by omega)
          have q0 : wr.cell? ⟨gl, k * 4, none⟩ = some (.int .u64 lo) := (hgb.cell (k * 4 + 0)).trans (HCS.out k 0 _ hf (by decide))
          have q1 : wr.cell? ⟨gl, k * 4 + 1, none⟩ = some (.int .u64 hi) := (hgb.cell (k * 4 + 1)).trans (HCS.out k 1 _ hf (by decide))
          have q2 : wr.cell? ⟨gl, k * 4 + 2, none⟩ = some (if isW t then .pointer none else fptr (H + 1 + 1 + 1) (H + 1 + 1 + 1 + 1) t) := (hgb.cell (k * 4 + 2)).trans (HCS.out k 2 _ hf (by decide))
          have q3 : wr.cell? ⟨gl, k * 4 + 3, none⟩ = some (if isW t then fptr (H + 1 + 1 + 1) (H + 1 + 1 + 1 + 1) t else .pointer none) := (hgb.cell (k * 4 + 3)).trans (HCS.out k 3 _ hf (by decide))
          have hk6 : k < 6 := by omega
          have hck : wr.cell? ⟨H + 1 + 1, 1 + k, none⟩ = some (.int .u64 (encK m k k)) := by rw [Nat.add_comm 1 k]; exact (hIk.c.cell (k + 1)).trans (callA_cell (m 0) (encK m k) k hk6)
          have hcz := hIk.c.frozen (1 + k)
          have hcl := hIk.c.lt
          have hxl := hIk.x.lt
          have hnl := hIk.cnt.lt
          have hgll := hgb.lt
          have l1 : H + 1 < wr.heap.size := by omega
          have l0 : H < wr.heap.size := by omega
          have HIK := hide hIk
          have HGB := hide hgb
          have HXX := hide hX
          have Hf := hide hf
          clear hIk hgb hX hf hgk hk
          by_cases hw : isW t = true
          · have ht7 : 7 ≤ t ∧ t ≤ 11 := by simpa [isW] using hw
            rw [if_pos hw] at q2 q3
            rw [show fptr (H + 1 + 1 + 1) (H + 1 + 1 + 1 + 1) t = .pointer (some ⟨H + 1 + 1 + 1, t, none⟩) by unfold fptr; rw [if_neg (by omega)]] at q3
            have hv : Hid (encX m k = encM m t) := hide (by rw [HXX.out]; unfold getM; rw [if_pos hw])
            have hIK3 := HIK.out.alloc (.cells #[.int .u64 lo, .int .u64 hi, .pointer none, .pointer (some ⟨H + 1 + 1 + 1, t, none⟩)] 57)
            have ho := (hIK3.x.cell t).trans (ordA_cell_w (encM m) t ht7.1 ht7.2)
            have hl3 := hIK3.x.lt
            clear hw
            go_wp2_with fail
            refine (get_w _ _ _ _ _ _ ho hl3).mono ?_
            rintro e w' ⟨rfl, rfl⟩
            go_wp2
            go_roundw
            case rel =>
              refine ⟨k + 1, hkn, by go_num, ?_, ?_⟩
              · have hst := HIK.out.step hk6
                rw [hv.out] at hst
                exact (hst.alloc _).alloc _
              · exact .inr (((HGB.out.far (by show gl ≠ H + 1 + 1; omega) _).alloc _).alloc _)
            case measure => simp [intOf]; omega
          · have hw' : isW t = false := by simpa using hw
            rw [hw'] at q2 q3
            simp only [Bool.false_eq_true, if_false] at q2 q3
            have hv : Hid (encX m k = IntKind.u64.wrap (encM m t)) := hide (by rw [HXX.out]; unfold getM; rw [if_neg hw])
            have ht7 : ¬ (7 ≤ t ∧ t ≤ 11) := by simpa [isW] using hw'
            clear hw hw'
            by_cases ht12 : t = 12
            · subst ht12
              rw [show fptr (H + 1 + 1 + 1) (H + 1 + 1 + 1 + 1) 12 = .pointer (some ⟨H + 1 + 1 + 1 + 1, 0, none⟩) from rfl] at q2
              have hIK3 := HIK.out.alloc (.cells #[.int .u64 lo, .int .u64 hi, .pointer (some ⟨H + 1 + 1 + 1 + 1, 0, none⟩), .pointer none] 57)
              have ho := hIK3.cnt.cell 0
              have hl3 := hIK3.cnt.lt
              clear ht7
              go_wp2_with fail
              refine (get_n _ _ _ _ _ _ ho hl3).mono ?_
              rintro e w' ⟨rfl, rfl⟩
              go_wp2
              go_roundw
              case rel =>
                refine ⟨k + 1, hkn, by go_num, ?_, ?_⟩
                · have hst := HIK.out.step hk6
                  rw [hv.out] at hst
                  exact (hst.alloc _).alloc _
                · exact .inr (((HGB.out.far (by show gl ≠ H + 1 + 1; omega) _).alloc _).alloc _)
              case measure => simp [intOf]; omega
            · rw [show fptr (H + 1 + 1 + 1) (H + 1 + 1 + 1 + 1) t = .pointer (some ⟨H + 1 + 1 + 1, t, none⟩) by unfold fptr; rw [if_neg ht12]] at q2
              have hIK3 := HIK.out.alloc (.cells #[.int .u64 lo, .int .u64 hi, .pointer (some ⟨H + 1 + 1 + 1, t, none⟩), .pointer none] 57)
              have ho := (hIK3.x.cell t).trans (ordA_cell_n (encM m) t (by omega))
              have hl3 := hIK3.x.lt
              clear ht7 ht12
              go_wp2_with fail
              refine (get_n _ _ _ _ _ _ ho hl3).mono ?_
              rintro e w' ⟨rfl, rfl⟩
              go_wp2
              go_roundw
              case rel =>
                refine ⟨k + 1, hkn, by go_num, ?_, ?_⟩
                · have hst := HIK.out.step hk6
                  rw [hv.out] at hst
                  exact (hst.alloc _).alloc _
                · exact .inr (((HGB.out.far (by show gl ≠ H + 1 + 1; omega) _).alloc _).alloc _)
              case measure => simp [intOf]; omega
        · have hcA := encK_all m k (by rw [HFS.out]; omega)
          have hcX : Blk wr (H + 1 + 1) 25 #[.int .u64 (m 0), .int .u64 (encX m 0), .int .u64 (encX m 1), .int .u64 (encX m 2), .int .u64 (encX m 3), .int .u64 (encX m 4), .int .u64 (encX m 5)] := by have := hIk.c; rw [hcA] at this; exact this
          obtain ⟨n0, n1, n2, n3, n4, n5, n6⟩ := hcX.c7
          have HIK := hide hIk
          have HCX := hide hcX
          clear hIk hcX hcA
          go_wp2_with fail
          refine (decode_any (m 0) (encX m) _ (encX_u m HM.out)).mono ?_
          rintro e w3 ⟨rfl, hb3⟩
          obtain ⟨m2, hm2⟩ : ∃ m2, (decV (m 0) (encX m)).1 = m2 := ⟨_, rfl⟩
          obtain ⟨c2, hc2⟩ : ∃ c2, (decV (m 0) (encX m)).2 = c2 := ⟨_, rfl⟩
          rw [hm2, hc2, show ordA m2 = #[.int .i64 (m2 0), .int .i64 (m2 1), .int .i64 (m2 2), .int .i64 (m2 3), .int .i64 (m2 4), .int .i64 (m2 5), .int .i64 (m2 6), .int .u64 (m2 7), .int .u64 (m2 8), .int .u64 (m2 9), .int .u64 (m2 10), .int .u64 (m2 11)] from rfl]
          have hI3 := HIK.out.bel hb3
          have hcX3 := blk_call HCX.out hb3
          have hV : encV m = if c2 = 0 ∧ ordB m2 m = true then ((m 0, encX m), 0) else ((0, fun _ => 0), 5) := by
            unfold encV
            rw [if_neg (by have := H0.out; omega), hm2, hc2]
          have HV := hide hV
          clear hm2 hc2 hV n0 n1 n2 n3 n4 n5 n6 hb3
          have hbox : Blk w3 H 29 #[.int .i64 (m 0), .int .i64 (m 1), .int .i64 (m 2), .int .i64 (m 3), .int .i64 (m 4), .int .i64 (m 5), .int .i64 (m 6), .int .u64 (m 7), .int .u64 (m 8), .int .u64 (m 9), .int .u64 (m 10), .int .u64 (m 11)] := hI3.box
          obtain ⟨o0, o1, o2, o3, o4, o5, o6, o7, o8, o9, o10, o11⟩ := hbox.c12
          have hs3 := hI3.size
          have l0 : H < w3.heap.size := by omega
          have l1 : H + 1 < w3.heap.size := by omega
          have l2 : H + 1 + 1 < w3.heap.size := by omega
          have HI3 := hide hI3
          have HCX3 := hide hcX3
          clear hI3 hcX3 hbox
          by_cases hcc : c2 = 0
          · cases hbb : ordB m2 m with
            | true =>
              have q : ∀ w, (Op.equalIn 10000 29 (.agg #[.int .i64 (m2 0), .int .i64 (m2 1), .int .i64 (m2 2), .int .i64 (m2 3), .int .i64 (m2 4), .int .i64 (m2 5), .int .i64 (m2 6), .int .u64 (m2 7), .int .u64 (m2 8), .int .u64 (m2 9), .int .u64 (m2 10), .int .u64 (m2 11)]) (.agg #[.int .i64 (m 0), .int .i64 (m 1), .int .i64 (m 2), .int .i64 (m 3), .int .i64 (m 4), .int .i64 (m 5), .int .i64 (m 6), .int .u64 (m 7), .int .u64 (m 8), .int .u64 (m 9), .int .u64 (m 10), .int .u64 (m 11)])).run Try.prog w = .ok true w := fun w => by rw [← hbb]; exact ord_eqA m2 m w
              have hV2 := HV.out
              rw [if_pos ⟨hcc, hbb⟩] at hV2
              have HV2 := hide hV2
              clear hV2 HV hbb
              subst hcc
              go_upto_if 71 with fail
              have hI4 := HI3.out.alloc (.cells #[.int .i64 (m2 0), .int .i64 (m2 1), .int .i64 (m2 2), .int .i64 (m2 3), .int .i64 (m2 4), .int .i64 (m2 5), .int .i64 (m2 6), .int .u64 (m2 7), .int .u64 (m2 8), .int .u64 (m2 9), .int .u64 (m2 10), .int .u64 (m2 11)] 29)
              have hcX4 := HCX3.out.alloc (.cells #[.int .i64 (m2 0), .int .i64 (m2 1), .int .i64 (m2 2), .int .i64 (m2 3), .int .i64 (m2 4), .int .i64 (m2 5), .int .i64 (m2 6), .int .u64 (m2 7), .int .u64 (m2 8), .int .u64 (m2 9), .int .u64 (m2 10), .int .u64 (m2 11)] 29)
              generalize w3.alloc (.cells #[.int .i64 (m2 0), .int .i64 (m2 1), .int .i64 (m2 2), .int .i64 (m2 3), .int .i64 (m2 4), .int .i64 (m2 5), .int .i64 (m2 6), .int .u64 (m2 7), .int .u64 (m2 8), .int .u64 (m2 9), .int .u64 (m2 10), .int .u64 (m2 11)] 29) = W4 at *
              have hres : Blk W4 (H + 1) 25 #[.int .u64 0, .int .u64 0, .int .u64 0, .int .u64 0, .int .u64 0, .int .u64 0, .int .u64 0] := hI4.res
              obtain ⟨e0, e1, e2, e3, e4, e5, e6⟩ := hres.c7
              obtain ⟨f0, f1, f2, f3, f4, f5, f6⟩ := hres.f7
              have hlt1 := hres.lt
              obtain ⟨n0, n1, n2, n3, n4, n5, n6⟩ := hcX4.c7
              have hlt2 := hcX4.lt
              clear q l0 l1 l2 o0 o1 o2 o3 o4 o5 o6 o7 o8 o9 o10 o11
              have HI4 := hide hI4
              clear hI4
              go_wp2
              refine bodyPost_ret (results_cell_tmp rfl _ _ (H + 1) 25 _ (0, 0) _ rfl (hres.set7 _ _ _ _ _ _ _) Try.underlying25 rfl (by kernel_rfl)) rfl ⟨by rw [HV2.out]; rfl, ?_⟩
              rw [HH.out]
              exact below_set7 HI4.out.below (by omega) _ _ _ _ _ _ _
            | false =>
              have q : ∀ w, (Op.equalIn 10000 29 (.agg #[.int .i64 (m2 0), .int .i64 (m2 1), .int .i64 (m2 2), .int .i64 (m2 3), .int .i64 (m2 4), .int .i64 (m2 5), .int .i64 (m2 6), .int .u64 (m2 7), .int .u64 (m2 8), .int .u64 (m2 9), .int .u64 (m2 10), .int .u64 (m2 11)]) (.agg #[.int .i64 (m 0), .int .i64 (m 1), .int .i64 (m 2), .int .i64 (m 3), .int .i64 (m 4), .int .i64 (m 5), .int .i64 (m 6), .int .u64 (m 7), .int .u64 (m 8), .int .u64 (m 9), .int .u64 (m 10), .int .u64 (m 11)])).run Try.prog w = .ok false w := fun w => by rw [← hbb]; exact ord_eqA m2 m w
              have hV2 := HV.out
              rw [if_neg (by rw [hbb]; simp)] at hV2
              have HV2 := hide hV2
              clear hV2 HV hbb
              subst hcc
              go_upto_if 71 with fail
              have hI4 := HI3.out.alloc (.cells #[.int .i64 (m2 0), .int .i64 (m2 1), .int .i64 (m2 2), .int .i64 (m2 3), .int .i64 (m2 4), .int .i64 (m2 5), .int .i64 (m2 6), .int .u64 (m2 7), .int .u64 (m2 8), .int .u64 (m2 9), .int .u64 (m2 10), .int .u64 (m2 11)] 29)
              have hcX4 := HCX3.out.alloc (.cells #[.int .i64 (m2 0), .int .i64 (m2 1), .int .i64 (m2 2), .int .i64 (m2 3), .int .i64 (m2 4), .int .i64 (m2 5), .int .i64 (m2 6), .int .u64 (m2 7), .int .u64 (m2 8), .int .u64 (m2 9), .int .u64 (m2 10), .int .u64 (m2 11)] 29)
              generalize w3.alloc (.cells #[.int .i64 (m2 0), .int .i64 (m2 1), .int .i64 (m2 2), .int .i64 (m2 3), .int .i64 (m2 4), .int .i64 (m2 5), .int .i64 (m2 6), .int .u64 (m2 7), .int .u64 (m2 8), .int .u64 (m2 9), .int .u64 (m2 10), .int .u64 (m2 11)] 29) = W4 at *
              have hres : Blk W4 (H + 1) 25 #[.int .u64 0, .int .u64 0, .int .u64 0, .int .u64 0, .int .u64 0, .int .u64 0, .int .u64 0] := hI4.res
              obtain ⟨e0, e1, e2, e3, e4, e5, e6⟩ := hres.c7
              obtain ⟨f0, f1, f2, f3, f4, f5, f6⟩ := hres.f7
              have hlt1 := hres.lt
              clear q l0 l1 l2 o0 o1 o2 o3 o4 o5 o6 o7 o8 o9 o10 o11 hcX4
              have HI4 := hide hI4
              clear hI4
              go_wp2
              refine bodyPost_ret (results_cell_tmp rfl _ _ (H + 1) 25 _ (0, 0) _ rfl (hres.set7 _ _ _ _ _ _ _) Try.underlying25 rfl (by kernel_rfl)) rfl ⟨by rw [HV2.out]; rfl, ?_⟩
              rw [HH.out]
              exact below_set7 HI4.out.below (by omega) _ _ _ _ _ _ _
          · have hV2 := HV.out
            rw [if_neg (fun h => hcc h.1)] at hV2
            have HV2 := hide hV2
            clear hV2 HV
            go_upto_if 71 with fail
            have hI4 := HI3.out.alloc (.cells #[.int .i64 (m2 0), .int .i64 (m2 1), .int .i64 (m2 2), .int .i64 (m2 3), .int .i64 (m2 4), .int .i64 (m2 5), .int .i64 (m2 6), .int .u64 (m2 7), .int .u64 (m2 8), .int .u64 (m2 9), .int .u64 (m2 10), .int .u64 (m2 11)] 29)
            have hcX4 := HCX3.out.alloc (.cells #[.int .i64 (m2 0), .int .i64 (m2 1), .int .i64 (m2 2), .int .i64 (m2 3), .int .i64 (m2 4), .int .i64 (m2 5), .int .i64 (m2 6), .int .u64 (m2 7), .int .u64 (m2 8), .int .u64 (m2 9), .int .u64 (m2 10), .int .u64 (m2 11)] 29)
            generalize w3.alloc (.cells #[.int .i64 (m2 0), .int .i64 (m2 1), .int .i64 (m2 2), .int .i64 (m2 3), .int .i64 (m2 4), .int .i64 (m2 5), .int .i64 (m2 6), .int .u64 (m2 7), .int .u64 (m2 8), .int .u64 (m2 9), .int .u64 (m2 10), .int .u64 (m2 11)] 29) = W4 at *
            have hres : Blk W4 (H + 1) 25 #[.int .u64 0, .int .u64 0, .int .u64 0, .int .u64 0, .int .u64 0, .int .u64 0, .int .u64 0] := hI4.res
            obtain ⟨e0, e1, e2, e3, e4, e5, e6⟩ := hres.c7
            obtain ⟨f0, f1, f2, f3, f4, f5, f6⟩ := hres.f7
            have hlt1 := hres.lt
            clear l0 l1 l2 o0 o1 o2 o3 o4 o5 o6 o7 o8 o9 o10 o11 hcX4
            have HI4 := hide hI4
            clear hI4
            go_wp2
            refine bodyPost_ret (results_cell_tmp rfl _ _ (H + 1) 25 _ (0, 0) _ rfl (hres.set7 _ _ _ _ _ _ _) Try.underlying25 rfl (by kernel_rfl)) rfl ⟨by rw [HV2.out]; rfl, ?_⟩
            rw [HH.out]
            exact below_set7 HI4.out.below (by omega) _ _ _ _ _ _ _
  · have HE := hide h1
    have d1 : ((m 0 : Int) == 1) = false := by simpa using h1
    clear h1
    go_enter Try.func12, Try.ntmps12
    go_wp2_with fail
    obtain ⟨c0, c1, c2, c3, c4, hB, hz⟩ := enc_w5 (w := w) (t0 := 29) (t1 := 25) (t2 := 25) (t3 := 29) (t4 := 3) #[.int .i64 (m 0), .int .i64 (m 1), .int .i64 (m 2), .int .i64 (m 3), .int .i64 (m 4), .int .i64 (m 5), .int .i64 (m 6), .int .u64 (m 7), .int .u64 (m 8), .int .u64 (m 9), .int .u64 (m 10), .int .u64 (m 11)] #[.int .u64 0, .int .u64 0, .int .u64 0, .int .u64 0, .int .u64 0, .int .u64 0, .int .u64 0] #[.int .u64 (m 0), .int .u64 0, .int .u64 0, .int .u64 0, .int .u64 0, .int .u64 0, .int .u64 0] #[.int .i64 (m 0), .int .i64 (m 1), .int .i64 (m 2), .int .i64 (m 3), .int .i64 (m 4), .int .i64 (m 5), .int .i64 (m 6), .int .u64 (m 7), .int .u64 (m 8), .int .u64 (m 9), .int .u64 (m 10), .int .u64 (m 11)] #[.int .i64 0]
    generalize ((((w.alloc (.cells #[.int .i64 (m 0), .int .i64 (m 1), .int .i64 (m 2), .int .i64 (m 3), .int .i64 (m 4), .int .i64 (m 5), .int .i64 (m 6), .int .u64 (m 7), .int .u64 (m 8), .int .u64 (m 9), .int .u64 (m 10), .int .u64 (m 11)] 29)).alloc (.cells #[.int .u64 0, .int .u64 0, .int .u64 0, .int .u64 0, .int .u64 0, .int .u64 0, .int .u64 0] 25)).alloc (.cells #[.int .u64 (m 0), .int .u64 0, .int .u64 0, .int .u64 0, .int .u64 0, .int .u64 0, .int .u64 0] 25)).alloc (.cells #[.int .i64 (m 0), .int .i64 (m 1), .int .i64 (m 2), .int .i64 (m 3), .int .i64 (m 4), .int .i64 (m 5), .int .i64 (m 6), .int .u64 (m 7), .int .u64 (m 8), .int .u64 (m 9), .int .u64 (m 10), .int .u64 (m 11)] 29)).alloc (.cells #[.int .i64 0] 3) = W at *
    generalize hH : w.heap.size = H at *
    have HH := hide hH
    clear hH
    have hI := enc_other c0 c1 c2 c3 c4 hB hz HE.out
    clear c0 c1 c2 c3 c4 hB hz
    have H0 := hide h0
    clear d1 d0 d6 h0 b6
    refine (forms_G (m 0) _ _ _).mono ?_
    rintro e w2 ⟨⟨p, gl, cap, cs, b, rfl, hp, hgl, hcs⟩, hb2⟩
    have hI2 := hI.bel hb2
    have hHs := hI.size
    have hgl' : (formG (m 0)).length = 0 ∨ (H + 5 ≤ gl ∧ Blk w2 gl 57 cs) := hgl.imp id fun h => ⟨by omega, h.2⟩
    clear hI hgl hb2 hHs
    obtain ⟨hn6, hok⟩ := formG_ok (m 0)
    have HOK := hide hok
    have HCS := hide hcs
    have HP := hide hp
    have HGL := hide hgl'
    clear hok hcs hp hgl'
    generalize hfs : formG (m 0) = fs at *
    have HFS := hide hfs
    clear hfs
    go_wp2
    go_loopw [49] (fun i wr => ∃ k : Nat, k ≤ fs.length ∧ i = .int .i64 k ∧ EncI w H m k wr ∧ (fs.length = 0 ∨ Blk wr gl 57 cs)) (fun i _ => 6 - (intOf i).toNat)
    case atStart => exact ⟨0, Nat.zero_le _, rfl, hI2, HGL.out.imp id fun h => h.2⟩
    case round =>
      obtain ⟨k, hk, rfl, hIk, hgk⟩ := hrel
      clear hI2
      by_cases hkn : k < fs.length
      · obtain ⟨⟨lo, hi, t⟩, hf⟩ : ∃ f, fs[k]? = some f := ⟨_, List.getElem?_eq_getElem hkn⟩
        obtain ⟨b1, b2, b3, b4, b5, b6⟩ := okF_w (List.all_eq_true.1 HOK.out _ (List.mem_of_getElem? hf))
        dsimp only at b5 b6
        clear b1 b2 b3 b4
        have hX : encX m k = getM (encM m) t := by rw [encX_G, HFS.out, hf]
        have hgb : Blk wr gl 57 cs := hgk.resolve_left (by omega)
        have hge : H + 5 ≤ gl := by
          rcases HGL.out with h | h
          · omega
          · exact h.1
        obtain rfl := HP.out.resolve_left (by omega)
        have q0 : wr.cell? ⟨gl, k * 4, none⟩ = some (.int .u64 lo) := (hgb.cell (k * 4 + 0)).trans (HCS.out k 0 _ hf (by decide))
        have q1 : wr.cell? ⟨gl, k * 4 + 1, none⟩ = some (.int .u64 hi) := (hgb.cell (k * 4 + 1)).trans (HCS.out k 1 _ hf (by decide))
        have q2 : wr.cell? ⟨gl, k * 4 + 2, none⟩ = some (if isW t then .pointer none else fptr (H + 1 + 1 + 1) (H + 1 + 1 + 1 + 1) t) := (hgb.cell (k * 4 + 2)).trans (HCS.out k 2 _ hf (by decide))
        have q3 : wr.cell? ⟨gl, k * 4 + 3, none⟩ = some (if isW t then fptr (H + 1 + 1 + 1) (H + 1 + 1 + 1 + 1) t else .pointer none) := (hgb.cell (k * 4 + 3)).trans (HCS.out k 3 _ hf (by decide))
        have hk6 : k < 6 := by omega
        have hck : wr.cell? ⟨H + 1 + 1, 1 + k, none⟩ = some (.int .u64 (encK m k k)) := by rw [Nat.add_comm 1 k]; exact (hIk.c.cell (k + 1)).trans (callA_cell (m 0) (encK m k) k hk6)
        have hcz := hIk.c.frozen (1 + k)
        have hcl := hIk.c.lt
        have hxl := hIk.x.lt
        have hnl := hIk.cnt.lt
        have hgll := hgb.lt
        have l1 : H + 1 < wr.heap.size := by omega
        have l0 : H < wr.heap.size := by omega
        have HIK := hide hIk
        have HGB := hide hgb
        have HXX := hide hX
        have Hf := hide hf
        clear hIk hgb hX hf hgk hk
        by_cases hw : isW t = true
        · have ht7 : 7 ≤ t ∧ t ≤ 11 := by simpa [isW] using hw
          rw [if_pos hw] at q2 q3
          rw [show fptr (H + 1 + 1 + 1) (H + 1 + 1 + 1 + 1) t = .pointer (some ⟨H + 1 + 1 + 1, t, none⟩) by unfold fptr; rw [if_neg (by omega)]] at q3
          have hv : Hid (encX m k = encM m t) := hide (by rw [HXX.out]; unfold getM; rw [if_pos hw])
          have hIK3 := HIK.out.alloc (.cells #[.int .u64 lo, .int .u64 hi, .pointer none, .pointer (some ⟨H + 1 + 1 + 1, t, none⟩)] 57)
          have ho := (hIK3.x.cell t).trans (ordA_cell_w (encM m) t ht7.1 ht7.2)
          have hl3 := hIK3.x.lt
          clear hw
          go_wp2_with fail
          refine (get_w _ _ _ _ _ _ ho hl3).mono ?_
          rintro e w' ⟨rfl, rfl⟩
          go_wp2
          go_roundw
          case rel =>
            refine ⟨k + 1, hkn, by go_num, ?_, ?_⟩
            · have hst := HIK.out.step hk6
              rw [hv.out] at hst
              exact (hst.alloc _).alloc _
            · exact .inr (((HGB.out.far (by show gl ≠ H + 1 + 1; omega) _).alloc _).alloc _)
          case measure => simp [intOf]; omega
        · have hw' : isW t = false := by simpa using hw
          rw [hw'] at q2 q3
          simp only [Bool.false_eq_true, if_false] at q2 q3
          have hv : Hid (encX m k = IntKind.u64.wrap (encM m t)) := hide (by rw [HXX.out]; unfold getM; rw [if_neg hw])
          have ht7 : ¬ (7 ≤ t ∧ t ≤ 11) := by simpa [isW] using hw'
          clear hw hw'
          by_cases ht12 : t = 12
          · subst ht12
            rw [show fptr (H + 1 + 1 + 1) (H + 1 + 1 + 1 + 1) 12 = .pointer (some ⟨H + 1 + 1 + 1 + 1, 0, none⟩) from rfl] at q2
            have hIK3 := HIK.out.alloc (.cells #[.int .u64 lo, .int .u64 hi, .pointer (some ⟨H + 1 + 1 + 1 + 1, 0, none⟩), .pointer none] 57)
            have ho := hIK3.cnt.cell 0
            have hl3 := hIK3.cnt.lt
            clear ht7
            go_wp2_with fail
            refine (get_n _ _ _ _ _ _ ho hl3).mono ?_
            rintro e w' ⟨rfl, rfl⟩
            go_wp2
            go_roundw
            case rel =>
              refine ⟨k + 1, hkn, by go_num, ?_, ?_⟩
              · have hst := HIK.out.step hk6
                rw [hv.out] at hst
                exact (hst.alloc _).alloc _
              · exact .inr (((HGB.out.far (by show gl ≠ H + 1 + 1; omega) _).alloc _).alloc _)
            case measure => simp [intOf]; omega
          · rw [show fptr (H + 1 + 1 + 1) (H + 1 + 1 + 1 + 1) t = .pointer (some ⟨H + 1 + 1 + 1, t, none⟩) by unfold fptr; rw [if_neg ht12]] at q2
            have hIK3 := HIK.out.alloc (.cells #[.int .u64 lo, .int .u64 hi, .pointer (some ⟨H + 1 + 1 + 1, t, none⟩), .pointer none] 57)
            have ho := (hIK3.x.cell t).trans (ordA_cell_n (encM m) t (by omega))
            have hl3 := hIK3.x.lt
            clear ht7 ht12
            go_wp2_with fail
            refine (get_n _ _ _ _ _ _ ho hl3).mono ?_
            rintro e w' ⟨rfl, rfl⟩
            go_wp2
            go_roundw
            case rel =>
              refine ⟨k + 1, hkn, by go_num, ?_, ?_⟩
              · have hst := HIK.out.step hk6
                rw [hv.out] at hst
                exact (hst.alloc _).alloc _
              · exact .inr (((HGB.out.far (by show gl ≠ H + 1 + 1; omega) _).alloc _).alloc _)
            case measure => simp [intOf]; omega
      · have hcA := encK_all m k (by rw [HFS.out]; omega)
        have hcX : Blk wr (H + 1 + 1) 25 #[.int .u64 (m 0), .int .u64 (encX m 0), .int .u64 (encX m 1), .int .u64 (encX m 2), .int .u64 (encX m 3), .int .u64 (encX m 4), .int .u64 (encX m 5)] := by have := hIk.c; rw [hcA] at this; exact this
        obtain ⟨n0, n1, n2, n3, n4, n5, n6⟩ := hcX.c7
        have HIK := hide hIk
        have HCX := hide hcX
        clear hIk hcX hcA
        go_wp2_with fail
        refine (decode_any (m 0) (encX m) _ (encX_u m HM.out)).mono ?_
        rintro e w3 ⟨rfl, hb3⟩
        obtain ⟨m2, hm2⟩ : ∃ m2, (decV (m 0) (encX m)).1 = m2 := ⟨_, rfl⟩
        obtain ⟨c2, hc2⟩ : ∃ c2, (decV (m 0) (encX m)).2 = c2 := ⟨_, rfl⟩
        rw [hm2, hc2, show ordA m2 = #[.int .i64 (m2 0), .int .i64 (m2 1), .int .i64 (m2 2), .int .i64 (m2 3), .int .i64 (m2 4), .int .i64 (m2 5), .int .i64 (m2 6), .int .u64 (m2 7), .int .u64 (m2 8), .int .u64 (m2 9), .int .u64 (m2 10), .int .u64 (m2 11)] from rfl]
        have hI3 := HIK.out.bel hb3
        have hcX3 := blk_call HCX.out hb3
        have hV : encV m = if c2 = 0 ∧ ordB m2 m = true then ((m 0, encX m), 0) else ((0, fun _ => 0), 5) := by
          unfold encV
          rw [if_neg (by have := H0.out; omega), hm2, hc2]
        have HV := hide hV
        clear hm2 hc2 hV n0 n1 n2 n3 n4 n5 n6 hb3
        have hbox : Blk w3 H 29 #[.int .i64 (m 0), .int .i64 (m 1), .int .i64 (m 2), .int .i64 (m 3), .int .i64 (m 4), .int .i64 (m 5), .int .i64 (m 6), .int .u64 (m 7), .int .u64 (m 8), .int .u64 (m 9), .int .u64 (m 10), .int .u64 (m 11)] := hI3.box
        obtain ⟨o0, o1, o2, o3, o4, o5, o6, o7, o8, o9, o10, o11⟩ := hbox.c12
        have hs3 := hI3.size
        have l0 : H < w3.heap.size := by omega
        have l1 : H + 1 < w3.heap.size := by omega
        have l2 : H + 1 + 1 < w3.heap.size := by omega
        have HI3 := hide hI3
        have HCX3 := hide hcX3
        clear hI3 hcX3 hbox
        by_cases hcc : c2 = 0
        · cases hbb : ordB m2 m with
          | true =>
            have q : ∀ w, (Op.equalIn 10000 29 (.agg #[.int .i64 (m2 0), .int .i64 (m2 1), .int .i64 (m2 2), .int .i64 (m2 3), .int .i64 (m2 4), .int .i64 (m2 5), .int .i64 (m2 6), .int .u64 (m2 7), .int .u64 (m2 8), .int .u64 (m2 9), .int .u64 (m2 10), .int .u64 (m2 11)]) (.agg #[.int .i64 (m 0), .int .i64 (m 1), .int .i64 (m 2), .int .i64 (m 3), .int .i64 (m 4), .int .i64 (m 5), .int .i64 (m 6), .int .u64 (m 7), .int .u64 (m 8), .int .u64 (m 9), .int .u64 (m 10), .int .u64 (m 11)])).run Try.prog w = .ok true w := fun w => by rw [← hbb]; exact ord_eqA m2 m w
            have hV2 := HV.out
            rw [if_pos ⟨hcc, hbb⟩] at hV2
            have HV2 := hide hV2
            clear hV2 HV hbb
            subst hcc
            go_upto_if 71 with fail
            have hI4 := HI3.out.alloc (.cells #[.int .i64 (m2 0), .int .i64 (m2 1), .int .i64 (m2 2), .int .i64 (m2 3), .int .i64 (m2 4), .int .i64 (m2 5), .int .i64 (m2 6), .int .u64 (m2 7), .int .u64 (m2 8), .int .u64 (m2 9), .int .u64 (m2 10), .int .u64 (m2 11)] 29)
            have hcX4 := HCX3.out.alloc (.cells #[.int .i64 (m2 0), .int .i64 (m2 1), .int .i64 (m2 2), .int .i64 (m2 3), .int .i64 (m2 4), .int .i64 (m2 5), .int .i64 (m2 6), .int .u64 (m2 7), .int .u64 (m2 8), .int .u64 (m2 9), .int .u64 (m2 10), .int .u64 (m2 11)] 29)
            generalize w3.alloc (.cells #[.int .i64 (m2 0), .int .i64 (m2 1), .int .i64 (m2 2), .int .i64 (m2 3), .int .i64 (m2 4), .int .i64 (m2 5), .int .i64 (m2 6), .int .u64 (m2 7), .int .u64 (m2 8), .int .u64 (m2 9), .int .u64 (m2 10), .int .u64 (m2 11)] 29) = W4 at *
            have hres : Blk W4 (H + 1) 25 #[.int .u64 0, .int .u64 0, .int .u64 0, .int .u64 0, .int .u64 0, .int .u64 0, .int .u64 0] := hI4.res
            obtain ⟨e0, e1, e2, e3, e4, e5, e6⟩ := hres.c7
            obtain ⟨f0, f1, f2, f3, f4, f5, f6⟩ := hres.f7
            have hlt1 := hres.lt
            obtain ⟨n0, n1, n2, n3, n4, n5, n6⟩ := hcX4.c7
            have hlt2 := hcX4.lt
            clear q l0 l1 l2 o0 o1 o2 o3 o4 o5 o6 o7 o8 o9 o10 o11
            have HI4 := hide hI4
            clear hI4
            go_wp2
            refine bodyPost_ret (results_cell_tmp rfl _ _ (H + 1) 25 _ (0, 0) _ rfl (hres.set7 _ _ _ _ _ _ _) Try.underlying25 rfl (by kernel_rfl)) rfl ⟨by rw [HV2.out]; rfl, ?_⟩
            rw [HH.out]
            exact below_set7 HI4.out.below (by omega) _ _ _ _ _ _ _
          | false =>
            have q : ∀ w, (Op.equalIn 10000 29 (.agg #[.int .i64 (m2 0), .int .i64 (m2 1), .int .i64 (m2 2), .int .i64 (m2 3), .int .i64 (m2 4), .int .i64 (m2 5), .int .i64 (m2 6), .int .u64 (m2 7), .int .u64 (m2 8), .int .u64 (m2 9), .int .u64 (m2 10), .int .u64 (m2 11)]) (.agg #[.int .i64 (m 0), .int .i64 (m 1), .int .i64 (m 2), .int .i64 (m 3), .int .i64 (m 4), .int .i64 (m 5), .int .i64 (m 6), .int .u64 (m 7), .int .u64 (m 8), .int .u64 (m 9), .int .u64 (m 10), .int .u64 (m 11)])).run Try.prog w = .ok false w := fun w => by rw [← hbb]; exact ord_eqA m2 m w
            have hV2 := HV.out
            rw [if_neg (by rw [hbb]; simp)] at hV2
            have HV2 := hide hV2
            clear hV2 HV hbb
            subst hcc
            go_upto_if 71 with fail
            have hI4 := HI3.out.alloc (.cells #[.int .i64 (m2 0), .int .i64 (m2 1), .int .i64 (m2 2), .int .i64 (m2 3), .int .i64 (m2 4), .int .i64 (m2 5), .int .i64 (m2 6), .int .u64 (m2 7), .int .u64 (m2 8), .int .u64 (m2 9), .int .u64 (m2 10), .int .u64 (m2 11)] 29)
            have hcX4 := HCX3.out.alloc (.cells #[.int .i64 (m2 0), .int .i64 (m2 1), .int .i64 (m2 2), .int .i64 (m2 3), .int .i64 (m2 4), .int .i64 (m2 5), .int .i64 (m2 6), .int .u64 (m2 7), .int .u64 (m2 8), .int .u64 (m2 9), .int .u64 (m2 10), .int .u64 (m2 11)] 29)
            generalize w3.alloc (.cells #[.int .i64 (m2 0), .int .i64 (m2 1), .int .i64 (m2 2), .int .i64 (m2 3), .int .i64 (m2 4), .int .i64 (m2 5), .int .i64 (m2 6), .int .u64 (m2 7), .int .u64 (m2 8), .int .u64 (m2 9), .int .u64 (m2 10), .int .u64 (m2 11)] 29) = W4 at *
            have hres : Blk W4 (H + 1) 25 #[.int .u64 0, .int .u64 0, .int .u64 0, .int .u64 0, .int .u64 0, .int .u64 0, .int .u64 0] := hI4.res
            obtain ⟨e0, e1, e2, e3, e4, e5, e6⟩ := hres.c7
            obtain ⟨f0, f1, f2, f3, f4, f5, f6⟩ := hres.f7
            have hlt1 := hres.lt
            clear q l0 l1 l2 o0 o1 o2 o3 o4 o5 o6 o7 o8 o9 o10 o11 hcX4
            have HI4 := hide hI4
            clear hI4
            go_wp2
            refine bodyPost_ret (results_cell_tmp rfl _ _ (H + 1) 25 _ (0, 0) _ rfl (hres.set7 _ _ _ _ _ _ _) Try.underlying25 rfl (by kernel_rfl)) rfl ⟨by rw [HV2.out]; rfl, ?_⟩
            rw [HH.out]
            exact below_set7 HI4.out.below (by omega) _ _ _ _ _ _ _
        · have hV2 := HV.out
          rw [if_neg (fun h => hcc h.1)] at hV2
          have HV2 := hide hV2
          clear hV2 HV
          go_upto_if 71 with fail
          have hI4 := HI3.out.alloc (.cells #[.int .i64 (m2 0), .int .i64 (m2 1), .int .i64 (m2 2), .int .i64 (m2 3), .int .i64 (m2 4), .int .i64 (m2 5), .int .i64 (m2 6), .int .u64 (m2 7), .int .u64 (m2 8), .int .u64 (m2 9), .int .u64 (m2 10), .int .u64 (m2 11)] 29)
          have hcX4 := HCX3.out.alloc (.cells #[.int .i64 (m2 0), .int .i64 (m2 1), .int .i64 (m2 2), .int .i64 (m2 3), .int .i64 (m2 4), .int .i64 (m2 5), .int .i64 (m2 6), .int .u64 (m2 7), .int .u64 (m2 8), .int .u64 (m2 9), .int .u64 (m2 10), .int .u64 (m2 11)] 29)
          generalize w3.alloc (.cells #[.int .i64 (m2 0), .int .i64 (m2 1), .int .i64 (m2 2), .int .i64 (m2 3), .int .i64 (m2 4), .int .i64 (m2 5), .int .i64 (m2 6), .int .u64 (m2 7), .int .u64 (m2 8), .int .u64 (m2 9), .int .u64 (m2 10), .int .u64 (m2 11)] 29) = W4 at *
          have hres : Blk W4 (H + 1) 25 #[.int .u64 0, .int .u64 0, .int .u64 0, .int .u64 0, .int .u64 0, .int .u64 0, .int .u64 0] := hI4.res
          obtain ⟨e0, e1, e2, e3, e4, e5, e6⟩ := hres.c7
          obtain ⟨f0, f1, f2, f3, f4, f5, f6⟩ := hres.f7
          have hlt1 := hres.lt
          clear l0 l1 l2 o0 o1 o2 o3 o4 o5 o6 o7 o8 o9 o10 o11 hcX4
          have HI4 := hide hI4
          clear hI4
          go_wp2
          refine bodyPost_ret (results_cell_tmp rfl _ _ (H + 1) 25 _ (0, 0) _ rfl (hres.set7 _ _ _ _ _ _ _) Try.underlying25 rfl (by kernel_rfl)) rfl ⟨by rw [HV2.out]; rfl, ?_⟩
          rw [HH.out]
          exact below_set7 HI4.out.below (by omega) _ _ _ _ _ _ _
theorem encode_any (m : Nat → Int) (w : World) (hm : OrdB m) : Calls Try.prog 12 #[.agg (ordA m)] w (EncPost (encV m) w) := by
  by_cases h0 : m 0 < 0
  · exact enc_neg0 m w h0
  · by_cases h6 : m 6 < 0
    · exact enc_neg6 m w (by omega) h6
    · exact enc_main m w hm (by omega) (by omega)
end Go.Proofs.Ytofmcaagnhdecaa
