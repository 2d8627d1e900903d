/- Chapter 8: the walks of access.Load and access.Store. -/
import Derived.Test.YtlfenakabedmfaaAccess
namespace Go.Proofs.Ytlfenakabedmfaa
open Go.RowKit Go.Shelf
theorem results_cell1 {P : Program} {fn : Func} {p : Tmp} {ty : TypeId} (h : fn.results = #[.cell p ty]) (tmps : Array Value) (w : World) (g : Nat) (T : TypeId) (cs : Array Value) (fr : Nat × Nat) (d : TypeDesc)
    (hp : tmps.getD p undef = .pointer (some ⟨g, 0, none⟩)) (hg : w.heap[g]? = some (.cells cs T fr))
    (hu : P.underlying ty = some d) (hd : (match d with | .struct _ | .array _ _ => true | _ => false) = true) (hi : (P.info? ty).map (·.size) = some cs.size) :
    (results fn tmps).run P w = .ok (.agg cs) w := by
  have hp' : tmps[p]?.getD undef = .pointer (some ⟨g, 0, none⟩) := by simpa using hp
  simp [results, h, hp', asAddr, run_loadVar_row w g T ty cs fr d hg hu hd hi]
theorem Blk.f3 {w : World} {g : Nat} {t : TypeId} {cs : Array Value} (h : Blk w g t cs) : w.frozen? ⟨g, 0, none⟩ = false ∧ w.frozen? ⟨g, 1, none⟩ = false ∧ w.frozen? ⟨g, 2, none⟩ = false := ⟨h.frozen 0, h.frozen 1, h.frozen 2⟩
theorem Blk.set3 {w : World} {g : Nat} {t : TypeId} {c0 c1 c2 : Value} (h : Blk w g t #[c0, c1, c2]) (v0 v1 v2 : Value) : Blk (((w.setCell ⟨g, 0, none⟩ v0).setCell ⟨g, 1, none⟩ v1).setCell ⟨g, 2, none⟩ v2) g t #[v0, v1, v2] := by
  have h' := ((h.set_ 0 v0).set_ 1 v1).set_ 2 v2
  simpa only [List.setIfInBounds_toArray, List.set_cons_zero, List.set_cons_succ] using h'
theorem mod_set3 {S : Nat → Prop} {a w : World} (hm : Mod S a w) {g : Nat} (hg : S g ∨ a.heap.size ≤ g) (v0 v1 v2 : Value) : Mod S a (((w.setCell ⟨g, 0, none⟩ v0).setCell ⟨g, 1, none⟩ v1).setCell ⟨g, 2, none⟩ v2) :=
  ((hm.setCell (p := ⟨g, 0, none⟩) hg v0).setCell (p := ⟨g, 1, none⟩) hg v1).setCell (p := ⟨g, 2, none⟩) hg v2
/-- A fault's cells. -/
def fltA (kd va : Int) (wr : Bool) : Array Value := #[.int .i64 kd, .int .u64 va, .bool wr]
set_option maxRecDepth 100000 in
set_option maxHeartbeats 1000000 in
theorem aload_fault (c q : Option Addr) (k va kd : Int) (w : World) (S : Nat → Prop) (Rp : World → Prop) (hk : kd ≠ 0) (hS : ∀ j, S j → j < w.heap.size) (hst : ∀ W W', Rp W → Mod (· = w.heap.size) W W' → Rp W')
    (hf : ∀ W, Below w.heap.size w W → Calls Try.prog 56 #[.pointer c, .pointer q, .int .i64 k, .int .u64 va, .bool false] W fun e w' => e = .returned (.tuple #[.int .u64 0, .int .i64 kd]) ∧ Rp w' ∧ Mod S W w') :
    Calls Try.prog 28 #[.pointer c, .pointer q, .int .i64 k, .int .u64 va] w fun e w' => e = .returned (.tuple #[.int .u64 0, .agg (fltA kd va false)]) ∧ Rp w' ∧ Mod S w w' := by
  have hb0 := (Below.refl _ w).alloc (Nat.le_refl _) (.cells #[.int .i64 0, .int .u64 0, .bool false] 61)
  have HF := hide (hf _ hb0)
  have hn : ¬ S w.heap.size := fun h => Nat.lt_irrefl _ (hS _ h)
  have HS := hide hst
  have hkf : (kd != 0) = true := by simpa using hk
  clear hf hS hst hk
  unfold fltA
  go_enter Try.func28, Try.ntmps28
  go_upto_region 1 with fail
  have hkb := Blk.new w 61 #[.int .i64 0, .int .u64 0, .bool false]
  generalize w.alloc (.cells #[.int .i64 0, .int .u64 0, .bool false] 61) = W at hb0 HF hkb ⊢
  generalize hH : w.heap.size = H at *
  have HH := hide hH
  clear hH
  go_wp2_with fail
  refine HF.out.mono ?_
  rintro e w1 ⟨rfl, hr, hm⟩
  replace hkb := hkb.mod hm hn
  have HM := hide ((Mod.of_below (HH.out ▸ hb0 : Below w.heap.size w W) S).trans hm)
  have HR := hide hr
  clear hr hm hb0
  obtain ⟨e0, e1, e2⟩ := hkb.c3
  obtain ⟨f0, f1, f2⟩ := hkb.f3
  go_wp2_with fail
  refine bodyPost_ret (results_tmp_cell rfl _ _ H 61 _ (0, 0) _ rfl (hkb.set3 _ _ _) Try.underlying61 rfl (by kernel_rfl)) rfl ⟨rfl, HS.out _ _ HR.out (mod_set3 (Mod.refl (· = H) _) (.inl rfl) _ _ _), mod_set3 HM.out (.inr (Nat.le_of_eq HH.out)) _ _ _⟩
set_option maxRecDepth 100000 in
set_option maxHeartbeats 1000000 in
theorem aload_good (g gb cap n : Nat) (tl : Nat → Nat) (K K' : Nat → Core) (gm gf N cp : Nat) (m : Nat → Int) (k va ad : Int) (w : World) (hC : CoresAt w g gb cap n tl K) (hM : MemAt w gm gf N cp m) (ha : 0 ≤ ad)
    (hf : ∀ W, Below w.heap.size w W → Calls Try.prog 56 #[.pointer (some ⟨g, 0, none⟩), .pointer (some ⟨gm, 0, none⟩), .int .i64 k, .int .u64 va, .bool false] W fun e w' => e = .returned (.tuple #[.int .u64 ad, .int .i64 0]) ∧ CoresAt w' g gb cap n tl K' ∧ Mod (crS g gb n tl) W w') :
    Calls Try.prog 28 #[.pointer (some ⟨g, 0, none⟩), .pointer (some ⟨gm, 0, none⟩), .int .i64 k, .int .u64 va] w fun e w' => e = .returned (.tuple #[.int .u64 (loadV N m ad), .agg (if adr N ad = 0 then fltA 0 0 false else fltA 4 va false)]) ∧ CoresAt w' g gb cap n tl K' ∧ Mod (crS g gb n tl) w w' := by
  have hb0 := (Below.refl _ w).alloc (Nat.le_refl _) (.cells #[.int .i64 0, .int .u64 0, .bool false] 61)
  have HF := hide (hf _ hb0)
  have hn : ¬ crS g gb n tl w.heap.size := fun h => Nat.lt_irrefl _ (hC.lt h)
  have HC0 := hide (hC.on hb0)
  have HM0 := hide (hM.on hb0)
  have HLD := hide (fun W hW => load_any gm gf N cp m ad W hW ha)
  clear hf hC hM
  generalize hlv : loadV N m ad = lv at HLD ⊢
  have HLV := hide hlv
  clear hlv
  unfold fltA
  go_enter Try.func28, Try.ntmps28
  go_upto_region 1 with fail
  have hkb := Blk.new w 61 #[.int .i64 0, .int .u64 0, .bool false]
  generalize w.alloc (.cells #[.int .i64 0, .int .u64 0, .bool false] 61) = W at hb0 HF hkb HC0 HM0 ⊢
  generalize hH : w.heap.size = H at *
  have HH := hide hH
  clear hH
  go_wp2_with fail
  refine HF.out.mono ?_
  rintro e w1 ⟨rfl, hr, hm⟩
  replace hkb := hkb.mod hm hn
  have HM1 := hide (HM0.out.crS HC0.out hm)
  have HM := hide ((Mod.of_below (HH.out ▸ hb0 : Below w.heap.size w W) (crS g gb n tl)).trans hm)
  have HR := hide (hr.mod (mod_set3 (Mod.refl (· = H) _) (.inl rfl) (.int .i64 0) (.int .u64 0) (.bool false)) (fun j hj e => hn (e ▸ hj)))
  have HR2 := hide (hr.mod (mod_set3 (Mod.refl (· = H) _) (.inl rfl) (.int .i64 4) (.int .u64 va) (.bool false)) (fun j hj e => hn (e ▸ hj)))
  clear hr hm hb0
  obtain ⟨e0, e1, e2⟩ := hkb.c3
  obtain ⟨f0, f1, f2⟩ := hkb.f3
  go_wp2_with fail
  refine (HLD.out _ HM1.out).mono ?_
  rintro e w2 ⟨rfl, rfl⟩
  by_cases hz : adr N ad = 0
  · rw [hz]
    go_wp2_with fail
    refine bodyPost_ret (results_tmp_cell rfl _ _ H 61 _ (0, 0) _ rfl (hkb.set3 _ _ _) Try.underlying61 rfl (by kernel_rfl)) rfl ⟨rfl, HR.out, mod_set3 HM.out (.inr (Nat.le_of_eq HH.out)) _ _ _⟩
  · have hzf : (adr N ad != 0) = true := by simpa using hz
    have h0 : lv = 0 := HLV.out.symm.trans (if_neg hz)
    subst h0
    go_wp2_with fail
    refine bodyPost_ret (results_tmp_cell rfl _ _ H 61 _ (0, 0) _ rfl (hkb.set3 _ _ _) Try.underlying61 rfl (by kernel_rfl)) rfl ⟨rfl, HR2.out, mod_set3 HM.out (.inr (Nat.le_of_eq HH.out)) _ _ _⟩
set_option maxRecDepth 100000 in
set_option maxHeartbeats 1000000 in
theorem astore_fault (c q : Option Addr) (k va v kd : Int) (w : World) (S : Nat → Prop) (Rp : World → Prop) (hk : kd ≠ 0) (hS : ∀ j, S j → j < w.heap.size) (hst : ∀ W W', Rp W → Mod (· = w.heap.size) W W' → Rp W')
    (hf : ∀ W, Below w.heap.size w W → Calls Try.prog 56 #[.pointer c, .pointer q, .int .i64 k, .int .u64 va, .bool true] W fun e w' => e = .returned (.tuple #[.int .u64 0, .int .i64 kd]) ∧ Rp w' ∧ Mod S W w') :
    Calls Try.prog 27 #[.pointer c, .pointer q, .int .i64 k, .int .u64 va, .int .u64 v] w fun e w' => e = .returned (.agg (fltA kd va true)) ∧ Rp w' ∧ Mod S w w' := by
  have hb0 := (Below.refl _ w).alloc (Nat.le_refl _) (.cells #[.int .i64 0, .int .u64 0, .bool false] 61)
  have HF := hide (hf _ hb0)
  have hn : ¬ S w.heap.size := fun h => Nat.lt_irrefl _ (hS _ h)
  have HS := hide hst
  have hkf : (kd != 0) = true := by simpa using hk
  have hkg : (kd == 0) = false := by simpa using hk
  clear hf hS hst hk
  unfold fltA
  go_enter Try.func27, Try.ntmps27
  go_upto_region 1 with fail
  have hkb := Blk.new w 61 #[.int .i64 0, .int .u64 0, .bool false]
  generalize w.alloc (.cells #[.int .i64 0, .int .u64 0, .bool false] 61) = W at hb0 HF hkb ⊢
  generalize hH : w.heap.size = H at *
  have HH := hide hH
  clear hH
  go_wp2_with fail
  refine HF.out.mono ?_
  rintro e w1 ⟨rfl, hr, hm⟩
  replace hkb := hkb.mod hm hn
  have HM := hide ((Mod.of_below (HH.out ▸ hb0 : Below w.heap.size w W) S).trans hm)
  have HR := hide hr
  clear hr hm hb0
  obtain ⟨e0, e1, e2⟩ := hkb.c3
  obtain ⟨f0, f1, f2⟩ := hkb.f3
  go_wp2_with fail
  refine bodyPost_ret (results_cell1 rfl _ _ H 61 _ (0, 0) _ rfl (hkb.set3 _ _ _) Try.underlying61 rfl (by kernel_rfl)) rfl ⟨rfl, HS.out _ _ HR.out (mod_set3 (Mod.refl (· = H) _) (.inl rfl) _ _ _), mod_set3 HM.out (.inr (Nat.le_of_eq HH.out)) _ _ _⟩
set_option maxRecDepth 100000 in
set_option maxHeartbeats 1000000 in
theorem astore_good (g gb cap n : Nat) (tl : Nat → Nat) (K K' : Nat → Core) (gm gf N cp : Nat) (m : Nat → Int) (k va v ad : Int) (w : World) (hC : CoresAt w g gb cap n tl K) (hM : MemAt w gm gf N cp m) (ha : 0 ≤ ad) (hv : 0 ≤ v ∧ v < 18446744073709551616)
    (hf : ∀ W, Below w.heap.size w W → Calls Try.prog 56 #[.pointer (some ⟨g, 0, none⟩), .pointer (some ⟨gm, 0, none⟩), .int .i64 k, .int .u64 va, .bool true] W fun e w' => e = .returned (.tuple #[.int .u64 ad, .int .i64 0]) ∧ CoresAt w' g gb cap n tl K' ∧ Mod (crS g gb n tl) W w') :
    Calls Try.prog 27 #[.pointer (some ⟨g, 0, none⟩), .pointer (some ⟨gm, 0, none⟩), .int .i64 k, .int .u64 va, .int .u64 v] w fun e w' => e = .returned (.agg (if adr N ad = 0 then fltA 0 0 false else fltA 4 va true)) ∧ CoresAt w' g gb cap n tl K' ∧ MemAt w' gm gf N cp (storeV N m ad v) ∧ Mod (fun j => crS g gb n tl j ∨ j = gf) w w' := by
  have hb0 := (Below.refl _ w).alloc (Nat.le_refl _) (.cells #[.int .i64 0, .int .u64 0, .bool false] 61)
  have HF := hide (hf _ hb0)
  have hn : ¬ crS g gb n tl w.heap.size := fun h => Nat.lt_irrefl _ (hC.lt h)
  have hgm := hM.hd.lt
  have hgf := hM.ltf
  have HC0 := hide (hC.on hb0)
  have HM0 := hide (hM.on hb0)
  have HST := hide (fun W hW => pstore_any gm gf N cp m ad v W hW ha hv)
  clear hf hC hM hv
  unfold fltA
  go_enter Try.func27, Try.ntmps27
  go_upto_region 1 with fail
  have hkb := Blk.new w 61 #[.int .i64 0, .int .u64 0, .bool false]
  generalize w.alloc (.cells #[.int .i64 0, .int .u64 0, .bool false] 61) = W at hb0 HF hkb HC0 HM0 ⊢
  generalize hH : w.heap.size = H at *
  have HH := hide hH
  clear hH
  go_wp2_with fail
  refine HF.out.mono ?_
  rintro e w1 ⟨rfl, hr, hm⟩
  replace hkb := hkb.mod hm hn
  have HM1 := hide (HM0.out.crS HC0.out hm)
  have HM := hide (((Mod.of_below (HH.out ▸ hb0 : Below w.heap.size w W) (crS g gb n tl)).trans hm).mono (T := fun j => crS g gb n tl j ∨ j = gf) (fun j hj => .inl (.inl hj)))
  have HR := hide hr
  clear hr hm hb0
  go_wp2_with fail
  refine (HST.out _ HM1.out).mono ?_
  rintro e w2 ⟨rfl, hM2, hm2⟩
  replace hkb := hkb.mod hm2 (by show ¬ (H = gf); omega)
  have HR3 := hide (HR.out.store HM1.out hm2)
  have HM2 := hide hM2
  have HM3 := hide (HM.out.trans (hm2.mono (T := fun j => crS g gb n tl j ∨ j = gf) (fun j hj => .inl (.inr hj))))
  clear hM2 hm2 HR HM HM1
  by_cases hz : adr N ad = 0
  · rw [hz]
    have hR3 := mod_set3 (Mod.refl (· = H) w2) (.inl rfl) (.int .i64 0) (.int .u64 0) (.bool false)
    have HR4 := hide (HR3.out.mod hR3 (fun j hj e => hn (e ▸ hj)))
    have HM4 := hide (HM2.out.modT hR3 (fun e => by have e' : gm = H := e; omega) (fun e => by have e' : gf = H := e; omega))
    have HMM := hide (mod_set3 HM3.out (.inr (Nat.le_of_eq HH.out)) (.int .i64 0) (.int .u64 0) (.bool false))
    clear hR3
    obtain ⟨e0, e1, e2⟩ := hkb.c3
    obtain ⟨f0, f1, f2⟩ := hkb.f3
    go_wp2_with fail
    refine bodyPost_ret (results_cell1 rfl _ _ H 61 _ (0, 0) _ rfl (hkb.set3 _ _ _) Try.underlying61 rfl (by kernel_rfl)) rfl ⟨rfl, HR4.out, HM4.out, HMM.out⟩
  · have hzf : (adr N ad != 0) = true := by simpa using hz
    have hR3 := mod_set3 (Mod.refl (· = H) w2) (.inl rfl) (.int .i64 4) (.int .u64 va) (.bool true)
    have HR4 := hide (HR3.out.mod hR3 (fun j hj e => hn (e ▸ hj)))
    have HM4 := hide (HM2.out.modT hR3 (fun e => by have e' : gm = H := e; omega) (fun e => by have e' : gf = H := e; omega))
    have HMM := hide (mod_set3 HM3.out (.inr (Nat.le_of_eq HH.out)) (.int .i64 4) (.int .u64 va) (.bool true))
    clear hR3
    obtain ⟨e0, e1, e2⟩ := hkb.c3
    obtain ⟨f0, f1, f2⟩ := hkb.f3
    go_wp2_with fail
    refine bodyPost_ret (results_cell1 rfl _ _ H 61 _ (0, 0) _ rfl (hkb.set3 _ _ _) Try.underlying61 rfl (by kernel_rfl)) rfl ⟨rfl, HR4.out, HM4.out, HMM.out⟩
end Go.Proofs.Ytlfenakabedmfaa
