/- What steps leave as it lay (Mod, Skips, Ext), and a range over a function whose iterator's contract names for each round what it is told and what it must keep. Conditions: as stated at each. -/
import Derived.Test.YtlfenakabedmfaaBase
import Derived.RangeFuncNested
import Derived.RangeFuncBound
import Derived.RangeFuncCalls
import Derived.RangeFuncLeaves
import Derived.Shelf.Abstract
import Derived.Shelf.RegionOpen
import Derived.OwnWalkIn
import Derived.TacticsInMore
import Derived.LoopNIn
import Derived.LoopIn
import Derived.Outline
import Derived.Deep.RegionHeld3
namespace Go.Proofs.Ytlfenakabedmfaa
open Go.RowKit Go.Shelf

/-- Whatever lay in w lies as it lay in w', but for the blocks of S. -/
structure Mod (S : Nat → Prop) (w w' : World) : Prop where
  os : w'.os = w.os
  tape : w'.tape = w.tape
  output : w'.output = w.output
  size : w.heap.size ≤ w'.heap.size
  block : ∀ k, k < w.heap.size → ¬ S k → w'.heap[k]? = w.heap[k]?
section
variable {S T : Nat → Prop} {a b c w w' : World}
theorem Mod.refl (S : Nat → Prop) (w : World) : Mod S w w := ⟨rfl, rfl, rfl, Nat.le_refl _, fun _ _ _ => rfl⟩
theorem Mod.mono (h : Mod S a b) (hs : ∀ k, S k → T k ∨ a.heap.size ≤ k) : Mod T a b :=
  ⟨h.os, h.tape, h.output, h.size, fun k hk hn => h.block k hk (fun hS => (hs k hS).elim hn (fun hh => absurd hk (Nat.not_lt.2 hh)))⟩
theorem Mod.trans (h : Mod S a b) (k : Mod S b c) : Mod S a c :=
  ⟨k.os.trans h.os, k.tape.trans h.tape, k.output.trans h.output, Nat.le_trans h.size k.size, fun i hi hn => (k.block i (Nat.lt_of_lt_of_le hi h.size) hn).trans (h.block i hi hn)⟩
theorem Mod.alloc (h : Mod S a w) (o : Obj) : Mod S a (w.alloc o) :=
  h.trans ⟨rfl, rfl, rfl, by simp, fun k hk _ => Below.heap_alloc _ _ _ hk⟩
theorem Mod.setCell (h : Mod S a w) {p : Addr} (hp : S p.block ∨ a.heap.size ≤ p.block) (u : Value) : Mod S a (w.setCell p u) :=
  ⟨h.os, h.tape, h.output, by simpa [World.setCell] using h.size, fun k hk hn => (Below.heap_setCell w p u k (by
    rintro rfl
    rcases hp with hp | hp
    · exact hn hp
    · omega)).trans (h.block k hk hn)⟩
theorem Mod.cell (h : Mod S w w') {b o : Nat} (hs : ¬ S b) (hb : b < w.heap.size) : w'.cell? ⟨b, o, none⟩ = w.cell? ⟨b, o, none⟩ := World.cell?_of_block (h.block b hb hs)
theorem Mod.of_drew (h : Mod S a.drew b) : Mod S a b := ⟨h.os, h.tape, h.output, h.size, h.block⟩
theorem Mod.one (g : Nat) (w : World) (j : Nat) (u : Value) : Mod (· = g) w (w.setCell ⟨g, j, none⟩ u) := (Mod.refl (· = g) w).setCell (p := ⟨g, j, none⟩) (.inl rfl) u
theorem Mod.drew (h : Mod S a w) : Mod S a w.drew := ⟨h.os, h.tape, h.output, h.size, h.block⟩
theorem Mod.drewN (h : Mod S a w) (n : Nat) : Mod S a (w.drewN n) := ⟨h.os, h.tape, h.output, h.size, h.block⟩
theorem Mod.of_below (h : Below w.heap.size w w') (S : Nat → Prop) : Mod S w w' := ⟨h.os, h.tape, h.output, h.size, fun k hk _ => h.block k hk⟩
theorem Mod.below {B : Nat} (h : Mod S w w') (hB : B ≤ w.heap.size) (hs : ∀ k, S k → B ≤ k) : Below B w w' :=
  ⟨h.os, h.tape, h.output, h.size, fun k hk => h.block k (Nat.lt_of_lt_of_le hk hB) (fun hS => by have := hs k hS; omega)⟩
theorem Mod.grown {row : Option Nat} (h : Mod S a w) (hg : w.grownBy w' row) (hr : ∀ k, row = some k → S k ∨ a.heap.size ≤ k) : Mod S a w' :=
  ⟨hg.os.trans h.os, hg.tape.trans h.tape, hg.output.trans h.output, Nat.le_trans h.size hg.size, fun k hk hn => (hg.block k (Nat.lt_of_lt_of_le hk h.size) (fun e => by
    rcases hr k e.symm with hS | hS
    · exact hn hS
    · omega)).trans (h.block k hk hn)⟩
end

theorem cell_below {B : Nat} {w w' : World} (h : Below B w w') {b o : Nat} (hb : b < B) : w'.cell? ⟨b, o, none⟩ = w.cell? ⟨b, o, none⟩ := h.cell (p := ⟨b, o, none⟩) hb
theorem below_mod {B : Nat} {S : Nat → Prop} {a b c : World} (h : Below B a b) (hB : B ≤ a.heap.size) (hm : Mod S b c) (hs : ∀ k, S k → B ≤ k) : Below B a c := h.trans (hm.below (Nat.le_trans hB h.size) hs)
/-- All that lay lies as it lay. -/
structure Ext (w w' : World) : Prop where
  os : w'.os = w.os
  tape : w'.tape = w.tape
  output : w'.output = w.output
  size : w.heap.size ≤ w'.heap.size
  block : ∀ (k : Nat) (o : Obj), w.heap[k]? = some o → w'.heap[k]? = some o
theorem Ext.refl (w : World) : Ext w w := ⟨rfl, rfl, rfl, Nat.le_refl _, fun _ _ h => h⟩
theorem Ext.below {w w' : World} (h : Ext w w') : Below w.heap.size w w' :=
  ⟨h.os, h.tape, h.output, h.size, fun k hk => by rw [h.block k _ (Array.getElem?_eq_getElem hk), Array.getElem?_eq_getElem hk]⟩
theorem Ext.of_below {w w' : World} (h : Below w.heap.size w w') : Ext w w' :=
  ⟨h.os, h.tape, h.output, h.size, fun k _ ho => (h.block k (Array.getElem?_eq_some_iff.1 ho).1).trans ho⟩

/-- Cells, and whatever lies below B, lie as they lay. -/
structure Skips (B : Nat) (w w' : World) : Prop where
  os : w'.os = w.os
  tape : w'.tape = w.tape
  output : w'.output = w.output
  size : w.heap.size ≤ w'.heap.size
  block : ∀ (k : Nat) (o : Obj), w.heap[k]? = some o → (o.isCells = true ∨ k < B) → w'.heap[k]? = some o
section
variable {B B' : Nat} {a b c w w' : World} {o : Obj}
theorem Skips.refl (B : Nat) (w : World) : Skips B w w := ⟨rfl, rfl, rfl, Nat.le_refl _, fun _ _ h _ => h⟩
theorem Skips.trans (h : Skips B a b) (k : Skips B b c) : Skips B a c :=
  ⟨k.os.trans h.os, k.tape.trans h.tape, k.output.trans h.output, Nat.le_trans h.size k.size, fun i o hi ho => k.block i o (h.block i o hi ho) ho⟩
theorem Skips.mono (h : Skips B a b) (hB : B' ≤ B) : Skips B' a b :=
  ⟨h.os, h.tape, h.output, h.size, fun k o hk ho => h.block k o hk (ho.imp id (fun hh => Nat.lt_of_lt_of_le hh hB))⟩
theorem Ext.skips (h : Ext a b) (B : Nat) : Skips B a b := ⟨h.os, h.tape, h.output, h.size, fun k o hk _ => h.block k o hk⟩
theorem Ext.keeps (h : Ext a b) (B : Nat) : KeepsFrom B a b := ⟨h.size, fun k o _ hk _ => h.block k o hk⟩
theorem Skips.alloc (w : World) (o : Obj) (B : Nat) : Skips B w (w.alloc o) :=
  ⟨rfl, rfl, rfl, by simp, fun k o' hk _ => (Below.heap_alloc w o k (Array.getElem?_eq_some_iff.1 hk).1).trans hk⟩
theorem Skips.drew (w : World) (B : Nat) : Skips B w w.drew := ⟨rfl, rfl, rfl, Nat.le_refl _, fun _ _ h _ => h⟩
theorem Skips.putObj {l : Nat} (hl : w.heap[l]? = some o) (ho : o.isCells = false) (hB : B ≤ l) (o' : Obj) : Skips B w (w.putObj l o') :=
  ⟨rfl, rfl, rfl, by simp, fun k o'' hk hc => by
    have hne : k ≠ l := by
      rintro rfl
      rw [hl] at hk
      cases hk
      rcases hc with hc | hc
      · rw [ho] at hc; cases hc
      · omega
    exact (World.putObj_heap_other hne).trans hk⟩
theorem Skips.blk {g : Nat} {t : TypeId} {cs : Array Value} (h : Skips B w w') (hb : Blk w g t cs) : Blk w' g t cs := h.block g _ hb (.inl rfl)
theorem Skips.same {g : Nat} {t : TypeId} {cs : Array Value} (h : Skips B w w') (hb : Blk w g t cs) : w'.heap[g]? = w.heap[g]? := (h.block g _ hb (.inl rfl)).trans (show w.heap[g]? = _ from hb).symm
theorem Skips.below (h : Skips B w w') (hB : B ≤ w.heap.size) : Below B w w' :=
  ⟨h.os, h.tape, h.output, h.size, fun k hk => by
    rw [h.block k _ (Array.getElem?_eq_getElem (Nat.lt_of_lt_of_le hk hB)) (.inr hk), Array.getElem?_eq_getElem (Nat.lt_of_lt_of_le hk hB)]⟩
theorem Skips.mod (h : Skips B w w') : Mod (fun k => B ≤ k) w w' :=
  ⟨h.os, h.tape, h.output, h.size, fun k hk hn => by
    rw [h.block k _ (Array.getElem?_eq_getElem hk) (.inr (Nat.lt_of_not_le hn)), Array.getElem?_eq_getElem hk]⟩
end
theorem Mod.skips {S : Nat → Prop} {B : Nat} {a b c : World} (h : Mod S a b) (k : Skips B b c) (hB : a.heap.size ≤ B) : Mod S a c :=
  ⟨k.os.trans h.os, k.tape.trans h.tape, k.output.trans h.output, Nat.le_trans h.size k.size, fun i hi hn => by
    have hb : i < b.heap.size := Nat.lt_of_lt_of_le hi h.size
    rw [k.block i _ (Array.getElem?_eq_getElem hb) (.inr (Nat.lt_of_lt_of_le hi hB)), ← Array.getElem?_eq_getElem hb]
    exact h.block i hi hn⟩
theorem below_skips {B N : Nat} {a b c : World} (h : Below B a b) (k : Skips N b c) (hB : B ≤ N) (ha : B ≤ a.heap.size) : Below B a c :=
  ⟨k.os.trans h.os, k.tape.trans h.tape, k.output.trans h.output, Nat.le_trans h.size k.size, fun i hi => by
    have hb : i < b.heap.size := Nat.lt_of_lt_of_le (Nat.lt_of_lt_of_le hi ha) h.size
    rw [k.block i _ (Array.getElem?_eq_getElem hb) (.inr (Nat.lt_of_lt_of_le hi hB)), ← Array.getElem?_eq_getElem hb]
    exact h.block i hi⟩
theorem Blk.same {w w' : World} {g : Nat} {t : TypeId} {cs : Array Value} (h : Blk w g t cs) (hs : w'.heap[g]? = w.heap[g]?) : Blk w' g t cs := hs.trans h
theorem Blk.mod {S : Nat → Prop} {w w' : World} {g : Nat} {t : TypeId} {cs : Array Value} (h : Blk w g t cs) (hm : Mod S w w') (hs : ¬ S g) : Blk w' g t cs := (hm.block g h.lt hs).trans h
theorem keeps_set {w w' : World} {p : Addr} {u : Value} (h : KeepsOthers w w') : KeepsOthers w (w'.setCell p u) := h.trans (KeepsOthers.setCell _ _ _)
theorem below_drewN {B : Nat} {a w : World} (h : Below B a w) (n : Nat) : Below B a (w.drewN n) := ⟨h.os, h.tape, h.output, h.size, h.block⟩

/-- The blocks of S, whatever they are, lie as they lay. -/
def KeepB (S : Nat → Prop) (W W' : World) : Prop := ∀ (k : Nat) (o : Obj), S k → W.heap[k]? = some o → W'.heap[k]? = some o
theorem KeepB.blk {S : Nat → Prop} {W W' : World} {g : Nat} {t : TypeId} {cs : Array Value} (h : KeepB S W W') (hb : Blk W g t cs) (hs : S g) : Blk W' g t cs := h g _ hs hb
theorem KeepB.refl (S : Nat → Prop) (W : World) : KeepB S W W := fun _ _ _ h => h
theorem KeepB.of_mod {S T : Nat → Prop} {W W' : World} (h : Mod T W W') (hd : ∀ k, S k → ¬ T k) : KeepB S W W' := fun k _ hs ho => (h.block k (Array.getElem?_eq_some_iff.1 ho).1 (hd k hs)).trans ho
theorem KeepB.of_below {S : Nat → Prop} {W W' : World} {B : Nat} (h : Below B W W') (hd : ∀ k, S k → k < B) : KeepB S W W' := fun k _ hs ho => (h.block k (hd k hs)).trans ho
theorem KeepB.mono {S T : Nat → Prop} {W W' : World} (h : KeepB T W W') (hd : ∀ k, S k → T k) : KeepB S W W' := fun k o hs ho => h k o (hd k hs) ho
theorem KeepB.skips {S : Nat → Prop} {n : Nat} {A B C D : World} (hs : ∀ k, S k → k < n) (h1 : Skips n A B) (h2 : KeepB S B C) (h3 : Skips n C D) : KeepB S A D :=
  fun k o hk ho => h3.block k o (h2 k o hk (h1.block k o ho (.inr (hs k hk)))) (.inr (hs k hk))
/-- A fact that abides the book-keeping of a loop over an iterator. -/
def Stable {β : Type} (B : Nat) (I : β → World → Prop) : Prop := ∀ s W W', I s W → Skips B W W' → I s W'

theorem grown_skips {B : Nat} {A C : World} {row : Option Nat} (hg : A.grownBy C row) (hr : ∀ r, row = some r → B ≤ r ∧ ∃ o : Obj, A.heap[r]? = some o ∧ o.isCells = false) : Skips B A C :=
  ⟨hg.os, hg.tape, hg.output, hg.size, fun k o hk hc => (hg.block k (Array.getElem?_eq_some_iff.1 hk).1 (fun e => by
    obtain ⟨hB, o', ho', hn⟩ := hr k e.symm
    rw [hk] at ho'
    cases ho'
    rcases hc with hc | hc
    · rw [hn] at hc; cases hc
    · omega)).trans hk⟩

/-- An iterator: for each element x, behind those of pre, it tells the round G pre x; the round that goes on keeps Kp pre x; where all have come S holds of them. -/
def Iter {α : Type} (F : Fence) (n : Nat) (P : Program) (g : Nat) (lb : Array Value) (encs : α → Array Value) (G : List α → α → World → Prop) (Kp : List α → α → World → World → Prop) (S : List α → World → Prop) (w : World) : Prop :=
  ∀ (l : Nat) (J Jx : List α → World → Prop) (W : World), Skips w.heap.size w W → w.heap.size ≤ l → Stable W.heap.size J → Stable W.heap.size Jx →
    (∀ pre x W1, J pre W1 → G pre x W1 → YieldAt F (n - 1) P l (encs x) W1 fun e W' =>
      (e = .returned (.bool true) ∧ J (pre ++ [x]) W' ∧ Kp pre x W1 W') ∨ (e = .returned (.bool false) ∧ Jx (pre ++ [x]) W')) →
    J [] W →
    CallsIn F n P g (#[.func (.yield l) #[] #[]] ++ lb) W fun e W' => (∃ v, e = .returned v) ∧ ((∃ xs, S xs W' ∧ J xs W') ∨ (∃ pre, Jx pre W'))

/-- How the body of a round may be left. -/
def roundEnds {α : Type} (B : Nat) (Kp : World → World → Prop) (I : List α → World → Prop) (Ix : Code → List α → World → Prop) (xs : List α) (W : World) : Exit → Act → World → Prop
  | .normal, _, W' => KeepsFrom B W W' ∧ Kp W W' ∧ I xs W'
  | .ret, _, W' => KeepsFrom B W W' ∧ Ix .ret xs W'
  | .exit id, _, W' => KeepsFrom B W W' ∧ Ix (.exit id) xs W'
  | .goto t, _, W' => KeepsFrom B W W' ∧ Ix (.goto t) xs W'
  | .panic _, _, _ => False
  | .outgrown, _, _ => False

section
variable {F : Fence} {n : Nat} {P : Program}
theorem wpIn_iter {α : Type} {g : Operand} {ps : Array Tmp} {assign body : Code} {Q : Exit → Act → World → Prop} {a : Act} {w : World}
    (hro : F.round = none) (h1 : 1 ≤ n) {gf : Nat} {lb : Array Value} (hg : a.eval g = .func (.func gf) #[] lb) (hFg : F.fn gf) (eg : ∀ args w, (callFunc gf args).run P w = .ok (.enter gf args) w)
    {encs : α → Array Value} {G : List α → α → World → Prop} {Kp : List α → α → World → World → Prop} {S : List α → World → Prop} (hseq : Iter F (n - 1) P gf lb encs G Kp S w)
    (hK : ∀ pre x A B C D, Skips w.heap.size A B → Kp pre x B C → Skips w.heap.size C D → Kp pre x A D)
    (hG : ∀ pre x A B, G pre x A → Skips w.heap.size A B → G pre x B) (hS : Stable w.heap.size S) (hps : ∀ x, (encs x).size = ps.size)
    (I : List α → World → Prop) (Ix : Code → List α → World → Prop) (hI : Stable w.heap.size I) (hIx : ∀ c, Stable w.heap.size (Ix c)) (h0 : I [] w)
    (Ax : List α → α → Act → World → Prop) (hAx : ∀ pre x a', Stable w.heap.size (fun (_ : Unit) W => Ax pre x a' W))
    (hassign : ∀ (l : Nat) (pre : List α) (x : α) (W : World) (K : Act → World → Prop), I pre W → G pre x W → (∀ a' W', Ext W W' → Ax pre x a' W' → K a' W') →
      assign.wpIn (F.inRound l) (n - 1 - 1) P (Exit.then K (fun _ _ _ => False)) { tmps := (ps.zip (encs x)).foldl (fun t (p, v) => t.setIfInBounds p v) a.tmps, defers := [] } W)
    (hbody : ∀ (l : Nat) (pre : List α) (x : α) (a' : Act) (W : World), w.heap.size ≤ l → (∃ r, W.heap[l]? = some (.loop r)) → I pre W → G pre x W → Ax pre x a' W →
      body.wpIn (F.inRound l) (n - 1 - 1) P (roundEnds w.heap.size (Kp pre x) I Ix (pre ++ [x]) W) a' W)
    (hdone : ∀ (D : Nat) (xs : List α) (W : World), w.heap.size ≤ D → S xs W → I xs W → W.heap[D]? = some (.deferred (some [])) → Q .normal { a with defers := { target := .collected D, args := #[] } :: a.defers } W)
    (hstop : ∀ (D : Nat) (c : Code) (pre : List α) (W : World), w.heap.size ≤ D → Ix c pre W → W.heap[D]? = some (.deferred (some [])) → c.wpIn F n P Q { a with defers := { target := .collected D, args := #[] } :: a.defers } W) :
    (Code.rangeFunc g ps assign body).wpIn F n P Q a w := by
  refine wpIn_rangeFunc fun fn hfn => ?_
  rw [hro]
  obtain ⟨H, hH⟩ : ∃ H : Nat, w.heap.size = H := ⟨_, rfl⟩
  let rec_ : LoopState → Option Code → Loop := fun st pe => { state := st, pending := pe, fn, tmps := a.tmps, params := ps, assign, body, defers := H }
  obtain ⟨W1, hW1⟩ : ∃ W1, (w.alloc (.deferred (some []))).alloc (.loop (rec_ .ready none)) = W1 := ⟨_, rfl⟩
  have hs1 : Skips H w W1 := by rw [← hW1]; exact (Skips.alloc _ _ _).trans (Skips.alloc _ _ _)
  have hL1 : W1.heap[H + 1]? = some (.loop (rec_ .ready none)) := by
    rw [← hW1]
    have := World.alloc_heap_new (w.alloc (.deferred (some []))) (.loop (rec_ .ready none))
    rwa [World.size_alloc, hH] at this
  have hD1 : W1.heap[H]? = some (.deferred (some [])) := by
    rw [← hW1]
    exact (Below.heap_alloc _ _ _ (by simp [hH])).trans (by have := World.alloc_heap_new w (.deferred (some [])); rwa [hH] at this)
  have hz1 : H ≤ W1.heap.size := by have := hs1.size; omega
  rw [hH] at hK hG hS hI hIx hAx hbody hdone hstop
  refine ⟨H + 1, [{ target := .collected H, args := #[] }], W1, { target := .fn (.func gf) lb, args := #[.func (.yield (H + 1)) #[] #[]] }, W1, gf, #[.func (.yield (H + 1)) #[] #[]] ++ lb, W1, ?_, ?_, ?_, ?_, fun _ => h1, ?_⟩
  · rw [← hW1]
    subst hH
    exact run_enterLoop_outer _ _ _ _ _
  · simp only [resolve, hg]
    simp [go_sem]
  · intro f' hf'
    simp [Target.leads] at hf'
    subst hf'
    exact hFg
  · simp [invoke, go_sem, eg]
  refine (hseq (H + 1)
    (fun pre W => I pre W ∧ W.heap[H + 1]? = some (.loop (rec_ .ready none)) ∧ W.heap[H]? = some (.deferred (some [])))
    (fun pre W => ∃ c, Ix c pre W ∧ W.heap[H + 1]? = some (.loop (rec_ .done (some c))) ∧ W.heap[H]? = some (.deferred (some [])))
    W1 (by rw [hH]; exact hs1) (by rw [hH]; omega)
    (fun s A C hs hk => ⟨hI s A C hs.1 (hk.mono hz1), hk.block _ _ hs.2.1 (.inr (Array.getElem?_eq_some_iff.1 hL1).1), hk.block _ _ hs.2.2 (.inr (Array.getElem?_eq_some_iff.1 hD1).1)⟩)
    (fun s A C hs hk => by
      obtain ⟨c, hc, hl, hd⟩ := hs
      exact ⟨c, hIx c s A C hc (hk.mono hz1), hk.block _ _ hl (.inr (Array.getElem?_eq_some_iff.1 hL1).1), hk.block _ _ hd (.inr (Array.getElem?_eq_some_iff.1 hD1).1)⟩)
    ?_ ⟨hI _ _ _ h0 hs1, hL1, hD1⟩).mono ?_
  · -- a round
    rintro pre x W ⟨hi, hl, hd⟩ hgx
    have hy := run_yield (P := P) (args := encs x) hl (hps x)
    refine ⟨fn, _, assign, body, hy, roundIn_of_wpIn hfn (hassign _ pre x W _ hi hgx ?_)⟩
    clear hy
    intro a' Wa hext hax
    replace hl := hext.block _ _ hl
    replace hd := hext.block _ _ hd
    have hia := hI _ _ _ hi (hext.skips H)
    have hga := hG _ _ _ _ hgx (hext.skips H)
    refine ⟨_, run_beginRound hl rfl, ?_⟩
    have hlt : H + 1 < Wa.heap.size := (Array.getElem?_eq_some_iff.1 hl).1
    have sk : Skips H Wa (Wa.putObj (H + 1) (.loop { rec_ .ready none with state := .busy })) := Skips.putObj hl rfl (by omega) _
    have hl2 : (Wa.putObj (H + 1) (.loop { rec_ .ready none with state := .busy })).heap[H + 1]? = some (.loop { rec_ .ready none with state := .busy }) := World.putObj_heap_same hlt
    have hd2 : (Wa.putObj (H + 1) (.loop { rec_ .ready none with state := .busy })).heap[H]? = some (.deferred (some [])) := (World.putObj_heap_other (by omega)).trans hd
    have ska := (hext.skips H).trans sk
    refine wpIn_mono (hbody _ pre x a' _ (by omega) ⟨_, hl2⟩ (hI _ _ _ hia sk) (hG _ _ _ _ hga sk) (hAx _ _ _ () _ _ hax sk)) ?_
    generalize Wa.putObj (H + 1) (.loop { rec_ .ready none with state := .busy }) = Wb at *
    have fin : ∀ (jump : Option Code) (W3 : World), KeepsFrom H Wb W3 →
        (Instr.endRound (H + 1) jump).run P W3 = .ok (.bool jump.isNone) (W3.putObj (H + 1) (.loop (rec_ (if jump.isNone then .ready else .done) jump))) ∧
        Skips H W3 (W3.putObj (H + 1) (.loop (rec_ (if jump.isNone then .ready else .done) jump))) ∧
        (W3.putObj (H + 1) (.loop (rec_ (if jump.isNone then .ready else .done) jump))).heap[H + 1]? = some (.loop (rec_ (if jump.isNone then .ready else .done) jump)) ∧
        (W3.putObj (H + 1) (.loop (rec_ (if jump.isNone then .ready else .done) jump))).heap[H]? = some (.deferred (some [])) := fun jump W3 hk3 => by
      have hl3 := hk3.same _ _ (by omega) hl2 rfl
      exact ⟨run_endRound (P := P) jump hl3, Skips.putObj hl3 rfl (by omega) _, World.putObj_heap_same (Array.getElem?_eq_some_iff.1 hl3).1, (World.putObj_heap_other (by omega)).trans (hk3.same _ _ (Nat.le_refl _) hd2 rfl)⟩
    rintro e a3 W3 hp
    cases e with
    | normal =>
      obtain ⟨hk3, hkp3, hi3⟩ := hp
      obtain ⟨hr, hs4, hl4, hd4⟩ := fin none W3 hk3
      exact ⟨_, _, hr, .inl ⟨rfl, ⟨hI _ _ _ hi3 hs4, hl4, hd4⟩, hK _ _ _ _ _ _ ska hkp3 hs4⟩⟩
    | ret =>
      obtain ⟨hk3, hi3⟩ := hp
      obtain ⟨hr, hs4, hl4, hd4⟩ := fin (some .ret) W3 hk3
      exact ⟨_, _, hr, .inr ⟨rfl, .ret, hIx _ _ _ _ hi3 hs4, hl4, hd4⟩⟩
    | exit id =>
      obtain ⟨hk3, hi3⟩ := hp
      obtain ⟨hr, hs4, hl4, hd4⟩ := fin (some (.exit id)) W3 hk3
      exact ⟨_, _, hr, .inr ⟨rfl, .exit id, hIx _ _ _ _ hi3 hs4, hl4, hd4⟩⟩
    | goto t =>
      obtain ⟨hk3, hi3⟩ := hp
      obtain ⟨hr, hs4, hl4, hd4⟩ := fin (some (.goto t)) W3 hk3
      exact ⟨_, _, hr, .inr ⟨rfl, .goto t, hIx _ _ _ _ hi3 hs4, hl4, hd4⟩⟩
    | panic ch => exact hp.elim
    | outgrown => exact hp.elim
  · -- behind the iterator
    rintro e W2 ⟨⟨v, rfl⟩, (⟨xs, hxs, hi, hl, hd⟩ | ⟨pre, c, hi, hl, hd⟩)⟩
    · have sk : Skips H W2 (W2.putObj (H + 1) (.loop { rec_ .ready none with state := .exhausted })) := Skips.putObj hl rfl (by omega) _
      exact ⟨none, _, run_endLoop (P := P) hl (by simp [rec_]), hdone _ xs _ (Nat.le_refl _) (hS _ _ _ hxs sk) (hI _ _ _ hi sk) ((World.putObj_heap_other (by omega)).trans hd)⟩
    · have sk : Skips H W2 (W2.putObj (H + 1) (.loop { rec_ .done (some c) with state := .exhausted })) := Skips.putObj hl rfl (by omega) _
      exact ⟨some c, _, run_endLoop (P := P) hl (by simp [rec_]), hstop _ c pre _ (Nat.le_refl _) (hIx c _ _ _ hi sk) ((World.putObj_heap_other (by omega)).trans hd)⟩
end

/-- Where the loop's variables lie in slots alone. -/
theorem wpIn_iter1 {F : Fence} {n : Nat} {P : Program} {α : Type} {g : Operand} {ps : Array Tmp} {assign body : Code} {Q : Exit → Act → World → Prop} {a : Act} {w : World}
    (hro : F.round = none) (h1 : 1 ≤ n) {gf : Nat} {lb : Array Value} (hg : a.eval g = .func (.func gf) #[] lb) (hFg : F.fn gf) (eg : ∀ args w, (callFunc gf args).run P w = .ok (.enter gf args) w)
    {encs : α → Array Value} {G : List α → α → World → Prop} {Kp : List α → α → World → World → Prop} {S : List α → World → Prop} (hseq : Iter F (n - 1) P gf lb encs G Kp S w)
    (hK : ∀ pre x A B C D, Skips w.heap.size A B → Kp pre x B C → Skips w.heap.size C D → Kp pre x A D)
    (hG : ∀ pre x A B, G pre x A → Skips w.heap.size A B → G pre x B) (hS : Stable w.heap.size S) (hps : ∀ x, (encs x).size = ps.size)
    (I : List α → World → Prop) (Ix : Code → List α → World → Prop) (hI : Stable w.heap.size I) (hIx : ∀ c, Stable w.heap.size (Ix c)) (h0 : I [] w) (a₁ : α → Act)
    (hassign : ∀ (l : Nat) (x : α) (W : World) (K : Act → World → Prop), K (a₁ x) W →
      assign.wpIn (F.inRound l) (n - 1 - 1) P (Exit.then K (fun _ _ _ => False)) { tmps := (ps.zip (encs x)).foldl (fun t (p, v) => t.setIfInBounds p v) a.tmps, defers := [] } W)
    (hbody : ∀ (l : Nat) (pre : List α) (x : α) (W : World), w.heap.size ≤ l → (∃ r, W.heap[l]? = some (.loop r)) → I pre W → G pre x W →
      body.wpIn (F.inRound l) (n - 1 - 1) P (roundEnds w.heap.size (Kp pre x) I Ix (pre ++ [x]) W) (a₁ x) W)
    (hdone : ∀ (D : Nat) (xs : List α) (W : World), w.heap.size ≤ D → S xs W → I xs W → W.heap[D]? = some (.deferred (some [])) → Q .normal { a with defers := { target := .collected D, args := #[] } :: a.defers } W)
    (hstop : ∀ (D : Nat) (c : Code) (pre : List α) (W : World), w.heap.size ≤ D → Ix c pre W → W.heap[D]? = some (.deferred (some [])) → c.wpIn F n P Q { a with defers := { target := .collected D, args := #[] } :: a.defers } W) :
    (Code.rangeFunc g ps assign body).wpIn F n P Q a w :=
  wpIn_iter hro h1 hg hFg eg hseq hK hG hS hps I Ix hI hIx h0 (fun _ x a' _ => a' = a₁ x) (fun _ _ _ _ _ _ h _ => h)
    (fun l _ x W K _ _ hK => hassign l x W K (hK _ _ (Ext.refl _) rfl)) (fun l pre x a' W hl hr hi hg e => by subst e; exact hbody l pre x W hl hr hi hg) hdone hstop

/-- A row that the call owns lies as it lay. -/
theorem owns_skips {B base : Nat} {e : TypeId} {size : Nat} {v : Value} {n : Nat} {xs : List Value} {A C : World} (h : A.ownsRow base e size v n xs) (hk : Skips B A C) : C.ownsRow base e size v n xs :=
  ⟨h.1, h.2.imp id fun ⟨g, cap, cur, e, hb, hg, r⟩ => ⟨g, cap, cur, e, hb, hk.blk (show Blk A g _ _ from hg), r⟩⟩
/-- A block of another type is no row that the call owns. -/
theorem Blk.not_row {W : World} {B : Nat} {t e : TypeId} {cs : Array Value} (h : Blk W B t cs) (hte : t ≠ e) {base size k : Nat} {v : Value} {xs : List Value} (hr : W.ownsRow base e size v k xs) : some B ≠ v.ownBlock := by
  rcases hr.2 with ⟨rfl, _⟩ | ⟨g, cap, cur, rfl, _, hgb, _⟩
  · simp [Value.ownBlock]
  · intro e'
    obtain rfl : B = g := by simpa [Value.ownBlock] using e'
    have := (show W.heap[B]? = _ from h).symm.trans hgb
    simp at this
    exact hte this.2
/-- A fence that lets all in: contracts that are known come in as they are. -/
structure WideF (F : Fence) (P : Program) : Prop where
  fn : ∀ f, F.fn f
  depth : F.depth = none
  calls : ∀ {n : Nat} {f : FuncId} {args : Array Value} {w : World} {R : Ending → World → Prop}, Calls P f args w R → CallsIn F n P f args w R
  rows : ∀ {n : Nat} {row : String} {args : Array Value} {w : World} {R : Value → World → Prop}, Rows P row args w R → RowsIn F n P row args w R
theorem wideF (P : Program) : WideF Fence.wide P := ⟨fun _ => trivial, rfl, fun h => callsIn_wide.2 h, fun h c cs _ => by
  obtain ⟨v, w', hr, hs⟩ := h c cs
  exact ⟨v, w', hr, stepsIn_wide.2 hs⟩⟩
theorem WideF.inRound {F : Fence} {P : Program} (h : WideF F P) (l : Nat) : WideF (F.inRound l) P := ⟨h.fn, h.depth, fun hc => h.calls hc, fun hr => h.rows hr⟩

/-! A region that draws its order, in a round too: from the laws that know no fence. -/
section
variable {F : Fence} {n : Nat} {P : Program} {ops : Array Oper} {Q : Exit → Act → World → Prop}
theorem Oper.wpIn_plain {o : Oper} {a : Act} {w : World} {K : Act → World → Prop} (hF : WideF F P) (hd : ∀ c, o.op ≠ .defer c) (h : o.wp P a w K Q) : o.wpIn F n P a w K Q := by
  have hdp : F.depth.isSome = true → 1 ≤ n := fun hs => by rw [hF.depth] at hs; cases hs
  refine ⟨fun f _ => hF.fn f, ?_⟩
  rw [Oper.semAt_eq _ _ _ hd]
  unfold Oper.wp at h
  generalize (execOp a.eval o).run P w = r at *
  cases r with
  | ok x w' =>
    cases x with
    | value v => exact h
    | skip => exact h
    | defer d => exact h
    | enter f args =>
      have hr : Calls P f args w' _ := h
      exact ⟨hdp, (hF.calls hr).mono (fun e w'' he => by cases e <;> exact he)⟩
    | row row args =>
      have hr : Rows P row args w' _ := h
      exact ⟨hdp, hF.rows hr⟩
    | _ => exact h.elim
  | halt x w' => cases x <;> simp only [Oper.upon, Oper.uponIn] at h ⊢ <;> exact h
def noDefers (ops : Array Oper) : Bool := ops.all fun o => match o.op with | .defer _ => false | _ => true
theorem noDefers_spec {o : Oper} {i : Nat} (h : noDefers ops = true) (hi : ops[i]? = some o) : ∀ c, o.op ≠ .defer c := fun c e => by
  obtain ⟨hlt, rfl⟩ := Array.getElem?_eq_some_iff.1 hi
  have := (Array.all_eq_true.1 h) i hlt
  rw [e] at this
  cases this
theorem wpOpIn_plain {i : Nat} {K : Act → World → Prop} {a : Act} {w : World} (hF : WideF F P) (hd : noDefers ops = true) (hL : ¬ LetsOut Q) (h : wpOp P ops Q i K a w) : wpOpIn F n P ops Q i K a w := by
  unfold wpOp at h
  unfold wpOpIn
  cases ho : ops[i]? with
  | none => simpa [ho] using h
  | some o =>
    simp only [ho] at h ⊢
    by_cases hw : Region.wanted o (yielded ops a.tmps) = true
    · simp only [hw, if_true] at h ⊢
      rcases h with h | h
      · exact Oper.wpIn_plain hF (noDefers_spec hd ho) h
      · exact absurd h.2 hL
    · simp only [hw, Bool.false_eq_true, if_false] at h ⊢
      exact ⟨fun f _ => hF.fn f, h⟩
theorem wpAnyIn_plain {md : Region.Mode} (hF : WideF F P) (hd : noDefers ops = true) (hL : ¬ LetsOut Q) : ∀ (fuel : Nat) (listed : Array Bool) (a : Act) (w : World), wpAny P md ops Q fuel listed a w → wpAnyIn F n P md ops Q fuel listed a w
  | 0, _, _, _, h => h
  | fuel + 1, _, _, _, h => ⟨h.1, fun i hi => wpOpIn_mono (fun a' w' h' => wpAnyIn_plain hF hd hL fuel _ a' w' h') (wpOpIn_plain hF hd hL (h.2 i hi))⟩
theorem wpIn_region_held {id : Nat} {a : Act} {w : World} {S : World → Prop} (hF : WideF F P) (hd : noDefers ops = true) (hL : ¬ LetsOut Q) (hm : P.follows .mixedOrders = true) (hS : S w.drew)
    (h : S w.drew → wpAnyH P .any ops Q S ops.size (Array.replicate ops.size false) a w.drew) : (Code.region id ops true).wpIn F n P Q a w :=
  wpIn_region_any hm (wpAnyIn_plain hF hd hL _ _ _ _ (wpAny_of_held _ _ _ _ (h hS)))
end
end Go.Proofs.Ytlfenakabedmfaa
