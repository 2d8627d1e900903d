/- Cores in memory: each core's registers and cache. -/
import Derived.Test.YtlfenakabedmfaaWalks
import Derived.Test.YtlfenakabedmfaaTlbR
import Derived.Test.YtlfenakabedmfaaRef6
namespace Go.Proofs.Ytlfenakabedmfaa
open Go.RowKit Go.Shelf

/-- A core: its registers and its cache. -/
structure Core where
  rt : Int
  sp : Int
  c : Cache
def upd {α : Type} (K : Nat → α) (i : Nat) (x : α) : Nat → α := fun j => if j = i then x else K j
theorem upd_same {α : Type} (K : Nat → α) (i : Nat) (x : α) : upd K i x i = x := if_pos rfl
theorem upd_ne {α : Type} (K : Nat → α) {i j : Nat} (x : α) (h : j ≠ i) : upd K i x j = K j := if_neg h
theorem upd_self {α : Type} (K : Nat → α) (i : Nat) : upd K i (K i) = K := by
  funext j
  unfold upd
  split
  · rename_i h; rw [h]
  · rfl
/-- A predicate of a cache's block. -/
structure TStable (TA : World → Nat → Cache → Prop) : Prop where
  same : ∀ {w w' : World} {g : Nat} {c : Cache}, TA w g c → w'.heap[g]? = w.heap[g]? → TA w' g c
  lt : ∀ {w : World} {g : Nat} {c : Cache}, TA w g c → g < w.heap.size
theorem tlbStable : TStable TlbAt := ⟨fun h => h.same, fun h => h.lt⟩
theorem refStable : TStable Ref6At := ⟨fun h => h.same, fun h => h.lt⟩
/-- n cores: their block, the row of their registers, their caches. -/
structure CrAt (tC tc : TypeId) (TA : World → Nat → Cache → Prop) (w : World) (g gb cap n : Nat) (tl : Nat → Nat) (K : Nat → Core) : Prop where
  st : TStable TA
  hd : Blk w g tC #[.slice (some ⟨gb, 0, none⟩) n cap]
  row : ∃ cs, Blk w gb tc cs ∧ ∀ i, i < n → cs[i * 3]? = some (.int .i64 (K i).rt) ∧ cs[i * 3 + 1]? = some (.int .i64 (K i).sp) ∧ cs[i * 3 + 2]? = some (.pointer (some ⟨tl i, 0, none⟩))
  tlb : ∀ i, i < n → TA w (tl i) (K i).c
  inj : ∀ i j, i < n → j < n → tl i = tl j → i = j
  off : ∀ i, i < n → tl i ≠ g ∧ tl i ≠ gb
  ne : g ≠ gb
  one : 1 ≤ n
  le : n ≤ 3
/-- What is theirs. -/
def crS (g gb n : Nat) (tl : Nat → Nat) (k : Nat) : Prop := k = g ∨ k = gb ∨ ∃ i, i < n ∧ k = tl i
section
variable {tC tc : TypeId} {TA : World → Nat → Cache → Prop} {w w' : World} {g gb cap n : Nat} {tl : Nat → Nat} {K : Nat → Core}
theorem CrAt.ltb (h : CrAt tC tc TA w g gb cap n tl K) : gb < w.heap.size := by obtain ⟨cs, hb, _⟩ := h.row; exact hb.lt
theorem CrAt.lt (h : CrAt tC tc TA w g gb cap n tl K) {k : Nat} (hk : crS g gb n tl k) : k < w.heap.size := by
  rcases hk with rfl | rfl | ⟨i, hi, rfl⟩
  · exact h.hd.lt
  · exact h.ltb
  · exact h.st.lt (h.tlb i hi)
theorem CrAt.same (h : CrAt tC tc TA w g gb cap n tl K) (hs : ∀ k, crS g gb n tl k → w'.heap[k]? = w.heap[k]?) : CrAt tC tc TA w' g gb cap n tl K :=
  ⟨h.st, h.hd.same (hs g (.inl rfl)), by obtain ⟨cs, hb, r⟩ := h.row; exact ⟨cs, hb.same (hs gb (.inr (.inl rfl))), r⟩,
    fun i hi => h.st.same (h.tlb i hi) (hs _ (.inr (.inr ⟨i, hi, rfl⟩))), h.inj, h.off, h.ne, h.one, h.le⟩
theorem CrAt.mod {S : Nat → Prop} (h : CrAt tC tc TA w g gb cap n tl K) (hm : Mod S w w') (hd : ∀ k, crS g gb n tl k → ¬ S k) : CrAt tC tc TA w' g gb cap n tl K :=
  h.same (fun k hk => hm.block k (h.lt hk) (hd k hk))
theorem CrAt.on (h : CrAt tC tc TA w g gb cap n tl K) (hb : Below w.heap.size w w') : CrAt tC tc TA w' g gb cap n tl K := h.same (fun k hk => hb.block k (h.lt hk))
theorem CrAt.skips {B : Nat} (h : CrAt tC tc TA w g gb cap n tl K) (hs : Skips B w w') (hB : ∀ k, crS g gb n tl k → k < B) : CrAt tC tc TA w' g gb cap n tl K :=
  h.same (fun k hk => by rw [hs.block k _ (Array.getElem?_eq_getElem (h.lt hk)) (.inr (hB k hk)), ← Array.getElem?_eq_getElem (h.lt hk)])
theorem CrAt.hd0 (h : CrAt tC tc TA w g gb cap n tl K) : w.cell? ⟨g, 0, none⟩ = some (.slice (some ⟨gb, 0, none⟩) n cap) := h.hd.cell 0
theorem CrAt.cells (h : CrAt tC tc TA w g gb cap n tl K) (i : Nat) (hi : i < n) : w.cell? ⟨gb, i * 3, none⟩ = some (.int .i64 (K i).rt) ∧ w.cell? ⟨gb, i * 3 + 1, none⟩ = some (.int .i64 (K i).sp) ∧ w.cell? ⟨gb, i * 3 + 2, none⟩ = some (.pointer (some ⟨tl i, 0, none⟩)) := by
  obtain ⟨cs, hb, r⟩ := h.row
  obtain ⟨r0, r1, r2⟩ := r i hi
  exact ⟨(hb.cell _).trans r0, (hb.cell _).trans r1, (hb.cell _).trans r2⟩
theorem CrAt.frozen (h : CrAt tC tc TA w g gb cap n tl K) (j : Nat) : w.frozen? ⟨gb, j, none⟩ = false := by
  obtain ⟨cs, hb, r⟩ := h.row
  exact hb.frozen j
theorem CrAt.setRegs (h : CrAt tC tc TA w g gb cap n tl K) (i : Nat) (hi : i < n) (a b : Int) : CrAt tC tc TA ((w.setCell ⟨gb, i * 3, none⟩ (.int .i64 a)).setCell ⟨gb, i * 3 + 1, none⟩ (.int .i64 b)) g gb cap n tl (upd K i ⟨a, b, (K i).c⟩) := by
  have hm : Mod (· = gb) w ((w.setCell ⟨gb, i * 3, none⟩ (.int .i64 a)).setCell ⟨gb, i * 3 + 1, none⟩ (.int .i64 b)) := (Mod.one gb w _ _).trans (Mod.one gb _ _ _)
  obtain ⟨cs, hb, r⟩ := h.row
  obtain ⟨q0, q1, q2⟩ := r i hi
  have hz0 : i * 3 < cs.size := (Array.getElem?_eq_some_iff.1 q0).1
  have hz1 : i * 3 + 1 < cs.size := (Array.getElem?_eq_some_iff.1 q1).1
  refine ⟨h.st, h.hd.mod hm h.ne, ⟨_, ((hb.set_ _ _).set_ _ _), fun j hj => ?_⟩, fun j hj => ?_, h.inj, h.off, h.ne, h.one, h.le⟩
  · obtain ⟨r0, r1, r2⟩ := r j hj
    by_cases e : j = i
    · subst e
      rw [upd_same]
      refine ⟨?_, ?_, ?_⟩
      · rw [Array.getElem?_setIfInBounds_ne (by omega), Array.getElem?_setIfInBounds_self, if_pos (by simpa using hz0)]
      · rw [Array.getElem?_setIfInBounds_self, if_pos (by simpa using hz1)]
      · rw [Array.getElem?_setIfInBounds_ne (by omega), Array.getElem?_setIfInBounds_ne (by omega)]; exact r2
    · rw [upd_ne _ _ e]
      refine ⟨?_, ?_, ?_⟩
      · rw [Array.getElem?_setIfInBounds_ne (by omega), Array.getElem?_setIfInBounds_ne (by omega)]; exact r0
      · rw [Array.getElem?_setIfInBounds_ne (by omega), Array.getElem?_setIfInBounds_ne (by omega)]; exact r1
      · rw [Array.getElem?_setIfInBounds_ne (by omega), Array.getElem?_setIfInBounds_ne (by omega)]; exact r2
  · have ht := h.st.same (h.tlb j hj) (hm.block _ (h.st.lt (h.tlb j hj)) (h.off j hj).2)
    by_cases e : j = i
    · subst e; rw [upd_same]; exact ht
    · rw [upd_ne _ _ e]; exact ht
theorem CrAt.setC (h : CrAt tC tc TA w g gb cap n tl K) (i : Nat) (hi : i < n) {c : Cache} (ht : TA w' (tl i) c) (hm : Mod (· = tl i) w w') : CrAt tC tc TA w' g gb cap n tl (upd K i ⟨(K i).rt, (K i).sp, c⟩) := by
  obtain ⟨cs, hb, r⟩ := h.row
  refine ⟨h.st, h.hd.mod hm (fun e => (h.off i hi).1 e.symm), ⟨cs, hb.mod hm (fun e => (h.off i hi).2 e.symm), fun j hj => ?_⟩, fun j hj => ?_, h.inj, h.off, h.ne, h.one, h.le⟩
  · by_cases e : j = i
    · subst e; rw [upd_same]; exact r j hj
    · rw [upd_ne _ _ e]; exact r j hj
  · by_cases e : j = i
    · subst e; rw [upd_same]; exact ht
    · rw [upd_ne _ _ e]
      exact h.st.same (h.tlb j hj) (hm.block _ (h.st.lt (h.tlb j hj)) (fun e2 => e (h.inj j i hj hi e2)))
theorem Mod.cr (hm : Mod (· = gb) w w') : Mod (crS g gb n tl) w w' := hm.mono (fun _ e => .inl (.inr (.inl e)))
theorem Mod.crT {i : Nat} (hi : i < n) (hm : Mod (· = tl i) w w') : Mod (crS g gb n tl) w w' := hm.mono (fun _ e => .inl (.inr (.inr ⟨i, hi, e⟩)))
end
abbrev CoresAt := CrAt 98 102 TlbAt
abbrev RCoresAt := CrAt 123 131 Ref6At
end Go.Proofs.Ytlfenakabedmfaa
