/- The walks of package decode: forms of words. -/
import Derived.Test.YtofmcaagnhdecaaDec
import Derived.Deep.CutBlock
import Derived.Deep.DeepCutAuto
import Derived.Deep.AppendLies
namespace Go.Proofs.Ytofmcaagnhdecaa
open Go.RowKit Go.Shelf
abbrev addrCells (g o : Nat) : Array Value := #[.int .u64 0, .int .u64 4095, .pointer (some ⟨g, o, none⟩), .pointer none]
theorem blk_at {w : World} {k : Nat} {t : TypeId} {cs : Array Value} (h : k = w.heap.size) : Blk (w.alloc (.cells cs t)) k t cs := by
  subst h
  exact Blk.new w t cs
/-- The words of an operation: the least and the greatest that each may be, and the cell of the order that it goes to (12: the count). -/
def formL (op : Int) : Option (List (Int × Int × Nat)) :=
  if op = 1 then some [(0, 4095, 1), (0, 15, 4), (0, 64, 5), (0, 4095, 2), (0, 15, 6), (1, 4, 12)] else
  if op = 2 then some [(0, 4095, 1), (0, 4095, 2), (0, 7, 4)] else
  if op = 3 then some [(0, 4095, 1), (0, 4095, 2), (0, 7, 4), (0, 18446744073709551615, 7)] else
  if op = 4 then some [(0, 4095, 1), (0, 4095, 2)] else
  if op = 5 then some [(0, 4095, 1), (0, 4095, 2)] else
  if op = 6 then some [(0, 4095, 1)] else
  if op = 7 then some [(0, 4095, 1), (1, 64, 4)] else
  if op = 8 then some [(0, 4095, 1), (0, 4095, 2), (0, 18446744073709551615, 7)] else
  if op = 9 then some [(0, 4095, 1)] else
  if op = 10 then some [(0, 4095, 1), (0, 4095, 2), (0, 18446744073709551615, 7), (0, 7, 4)] else
  if op = 11 then some [(0, 4095, 1)] else
  if op = 12 then some [(0, 4095, 1), (0, 4095, 2)] else
  if op = 13 then some [(0, 4095, 1), (0, 4095, 2)] else
  if op = 14 then some [(0, 4095, 1), (0, 4096, 4), (0, 18446744073709551615, 8), (0, 18446744073709551615, 9), (0, 18446744073709551615, 10), (0, 18446744073709551615, 11)] else
  if op = 15 then some [(0, 4095, 1), (0, 4096, 4), (0, 18446744073709551615, 8), (0, 18446744073709551615, 9), (0, 18446744073709551615, 10), (0, 18446744073709551615, 11)] else
  if op = 16 then some [(0, 4095, 1), (0, 4096, 4)] else
  if op = 17 then some [(0, 18446744073709551615, 8), (0, 18446744073709551615, 9), (0, 18446744073709551615, 10), (0, 18446744073709551615, 11)] else
  if op = 18 then some [] else
  if op = 19 then some [(0, 4095, 1), (0, 2, 4), (0, 4095, 2)] else
  if op = 20 then some [(0, 4095, 1), (0, 2, 4)] else
  if op = 21 then some [(0, 4095, 1)] else
  if op = 22 then some [(0, 4095, 1)] else
  if op = 23 then some [(0, 4095, 1), (0, 7, 4)] else
  none
def isW (i : Nat) : Bool := decide (7 ≤ i) && decide (i ≤ 11)
def fptr (g gc i : Nat) : Value := .pointer (some (if i = 12 then ⟨gc, 0, none⟩ else ⟨g, i, none⟩))
def fcell (g gc : Nat) (f : Int × Int × Nat) : List Value := [.int .u64 f.1, .int .u64 f.2.1, if isW f.2.2 then .pointer none else fptr g gc f.2.2, if isW f.2.2 then fptr g gc f.2.2 else .pointer none]
/-- The forms lie in a slice of the call's own. -/
def FormsAt (w : World) (base : Nat) (v : Value) (g gc : Nat) (fs : List (Int × Int × Nat)) : Prop := w.ownsRow base 57 4 v fs.length (fs.flatMap (fcell g gc))
def FormsPost (op : Int) (g gc : Nat) (w : World) (e : Ending) (w' : World) : Prop :=
  (∃ v b, e = .returned (.tuple #[v, .bool b]) ∧ b = (formL op).isSome ∧ (∀ fs, formL op = some fs → FormsAt w' w.heap.size v g gc fs)) ∧ Below w.heap.size w w'
theorem formsPost_some {op : Int} {g gc : Nat} {w w' : World} {v : Value} {fs : List (Int × Int × Nat)} (hf : formL op = some fs) (h : FormsAt w' w.heap.size v g gc fs) (hb : Below w.heap.size w w') : FormsPost op g gc w (.returned (.tuple #[v, .bool true])) w' :=
  ⟨⟨v, true, rfl, by rw [hf]; rfl, fun fs' h' => by rw [hf] at h'; cases h'; exact h⟩, hb⟩
theorem formsPost_none {op : Int} {g gc : Nat} {w w' : World} {v : Value} (hf : formL op = none) (hb : Below w.heap.size w w') : FormsPost op g gc w (.returned (.tuple #[v, .bool false])) w' :=
  ⟨⟨v, false, rfl, by rw [hf]; rfl, fun fs' h' => by rw [hf] at h'; cases h'⟩, hb⟩
theorem own_blk {w : World} {base gl n : Nat} {xs : List Value} {cs : Array Value} (hb : base ≤ gl) (h : Blk w gl 57 cs) (hx : cs.toList = xs) (hn : cs.size = n * 4) (hm : n ≤ maxLen) : w.ownsRow base 57 4 (.slice (some ⟨gl, 0, none⟩) n n) n xs := by
  subst hx
  refine ⟨by simpa using hn, .inr ⟨gl, n, cs, rfl, hb, h, Nat.le_refl _, hm, hn, ?_⟩⟩
  rw [← hn, ← Array.length_toList, List.take_length]
theorem formsAt_blk {w : World} {base gl n : Nat} {g gc : Nat} {fs : List (Int × Int × Nat)} {cs : Array Value} (hb : base ≤ gl) (h : Blk w gl 57 cs) (hn : n = fs.length) (hc : cs.toList = fs.flatMap (fcell g gc)) (hs : cs.size = n * 4) (hm : n ≤ maxLen) : FormsAt w base (.slice (some ⟨gl, 0, none⟩) n n) g gc fs := by
  subst hn
  exact own_blk hb h hc hs hm
theorem own_ne {ga K a b : Nat} (h : ga < K) : some ga ≠ Value.ownBlock (.slice (some ⟨K, 0, none⟩) a b) := fun e => by
  injection e with e
  simp only at e
  omega
theorem own_le {B K a b : Nat} (h : B ≤ K) (k : Nat) (e : Value.ownBlock (.slice (some ⟨K, 0, none⟩) a b) = some k) : B ≤ k := by
  injection e with e
  simp only at e
  omega
theorem blk_call {W w2 : World} {g : Nat} {t : TypeId} {cs : Array Value} (h : Blk W g t cs) (hb : Below W.heap.size W w2) : Blk w2 g t cs := h.below hb h.lt
theorem formInfo : (Try.prog.info? 57).map (fun i => (i.zero, i.size, i.bytes)) = some (some (.agg #[.int .u64 0, .int .u64 0, .pointer none, .pointer none]), 4, 32) := by kernel_rfl
theorem one_msg (g : Nat) : ∀ u ∈ (msgCells g).toList, u.oneCell' = true := by
  intro u hu
  simp [msgCells] at hu
  rcases hu with rfl | rfl | rfl | rfl | rfl | rfl | rfl | rfl | rfl | rfl | rfl | rfl | rfl | rfl | rfl | rfl <;> rfl
theorem keep8 {w : World} {ga gb g : Nat} (hA : Blk w ga 57 (addrCells g 1)) (hB : Blk w gb 57 (addrCells g 2)) :
    w.cell? ⟨ga, 0, none⟩ = some (.int .u64 0) ∧ w.cell? ⟨ga, 1, none⟩ = some (.int .u64 4095) ∧ w.cell? ⟨ga, 2, none⟩ = some (.pointer (some ⟨g, 1, none⟩)) ∧ w.cell? ⟨ga, 3, none⟩ = some (.pointer none) ∧
    w.cell? ⟨gb, 0, none⟩ = some (.int .u64 0) ∧ w.cell? ⟨gb, 1, none⟩ = some (.int .u64 4095) ∧ w.cell? ⟨gb, 2, none⟩ = some (.pointer (some ⟨g, 2, none⟩)) ∧ w.cell? ⟨gb, 3, none⟩ = some (.pointer none) :=
  ⟨hA.cell 0, hA.cell 1, hA.cell 2, hA.cell 3, hB.cell 0, hB.cell 1, hB.cell 2, hB.cell 3⟩
set_option maxRecDepth 100000 in
set_option maxHeartbeats 40000000 in
theorem forms_any (op : Int) (g gc : Nat) (w : World) : Calls Try.prog 14 #[.int .u64 op, .pointer (some ⟨g, 0, none⟩), .pointer (some ⟨gc, 0, none⟩)] w (FormsPost op g gc w) := by
  go_enter Try.func14, Try.ntmps14
  go_upto_region 1 with fail
  have hK := (Below.refl w.heap.size w).drew
  go_cut [8, 9] (fun s8 s9 wx => ∃ ga gb, s8 = .pointer (some ⟨ga, 0, none⟩) ∧ s9 = .pointer (some ⟨gb, 0, none⟩) ∧ w.heap.size ≤ ga ∧ w.heap.size ≤ gb ∧ Blk wx ga 57 (addrCells g 1) ∧ Blk wx gb 57 (addrCells g 2) ∧ Below w.heap.size w wx)
  case first =>
    go_region_held3 (fun _ => True) (trivial) ((go_at_call 23; refine (address_any _ _).mono ?_; rintro e w2 ⟨rfl, rfl⟩))
    all_goals
      go_wp2
      go_meet
      refine ⟨_, _, rfl, rfl, ?_, ?_, ?_, ?_, ?_⟩
      · omega
      · omega
      · refine Blk.drew ?_
        repeat (first | (with_reducible exact blk_at (by first | rfl | omega | (simp only [World.size_alloc]; done) | (simp only [World.size_alloc]; omega))) | with_reducible refine Blk.alloc ?_ _)
      · refine Blk.drew ?_
        repeat (first | (with_reducible exact blk_at (by first | rfl | omega | (simp only [World.size_alloc]; done) | (simp only [World.size_alloc]; omega))) | with_reducible refine Blk.alloc ?_ _)
      · refine Below.drew ?_
        repeat refine Below.alloc ?_ (by first | exact Nat.le_refl _ | (simp only [World.size_alloc]; omega)) _
        exact Below.refl _ _
  case rest =>
    obtain ⟨ga, gb, rfl, rfl, la, lb, hA, hB, hK2⟩ := hcut
    obtain ⟨a0, a1, a2, a3, b0, b1, b2, b3⟩ := keep8 hA hB
    have hkz := hK2.size
    clear hK
    by_cases h1 : op = 1
    · subst h1
      go_wp2
      go_region_held3 (fun w' => w'.cell? ⟨ga, 0, none⟩ = some (.int .u64 0) ∧ w'.cell? ⟨ga, 1, none⟩ = some (.int .u64 4095) ∧ w'.cell? ⟨ga, 2, none⟩ = some (.pointer (some ⟨g, 1, none⟩)) ∧ w'.cell? ⟨ga, 3, none⟩ = some (.pointer none) ∧ w'.cell? ⟨gb, 0, none⟩ = some (.int .u64 0) ∧ w'.cell? ⟨gb, 1, none⟩ = some (.int .u64 4095) ∧ w'.cell? ⟨gb, 2, none⟩ = some (.pointer (some ⟨g, 2, none⟩)) ∧ w'.cell? ⟨gb, 3, none⟩ = some (.pointer none)) (exact keep8 (by repeat (first | assumption | with_reducible apply Blk.alloc | with_reducible apply Blk.drew)) (by repeat (first | assumption | with_reducible apply Blk.alloc | with_reducible apply Blk.drew))) ((first
        | (go_at_call 24; refine (number_any _ _ _ _).mono ?_; rintro e w2 ⟨rfl, rfl⟩)
        | (go_at_call 25; refine (wide_any _ _).mono ?_; rintro e w2 ⟨rfl, rfl⟩)))
      go_wp2
      refine bodyPost_ret (results_tmp2 rfl _ _ _) rfl ?_
      refine formsPost_some (fs := _) rfl (formsAt_blk (cs := _) ?_ (blk_at ?_) rfl rfl rfl (by decide)) ?_
      · (repeat (first | simp only [World.size_alloc] | simp only [World.size_drew])); omega
      · first | rfl | omega | ((repeat (first | simp only [World.size_alloc] | simp only [World.size_drew])) <;> omega)
      · repeat (first | assumption | with_reducible apply Below.drew | (with_reducible refine Below.alloc ?_ (by (repeat (first | simp only [World.size_alloc] | simp only [World.size_drew])); omega) _))
    by_cases h2 : op = 2
    · subst h2
      clear h1
      go_wp2
      go_region_held3 (fun w' => w'.cell? ⟨ga, 0, none⟩ = some (.int .u64 0) ∧ w'.cell? ⟨ga, 1, none⟩ = some (.int .u64 4095) ∧ w'.cell? ⟨ga, 2, none⟩ = some (.pointer (some ⟨g, 1, none⟩)) ∧ w'.cell? ⟨ga, 3, none⟩ = some (.pointer none) ∧ w'.cell? ⟨gb, 0, none⟩ = some (.int .u64 0) ∧ w'.cell? ⟨gb, 1, none⟩ = some (.int .u64 4095) ∧ w'.cell? ⟨gb, 2, none⟩ = some (.pointer (some ⟨g, 2, none⟩)) ∧ w'.cell? ⟨gb, 3, none⟩ = some (.pointer none)) (exact keep8 (by repeat (first | assumption | with_reducible apply Blk.alloc | with_reducible apply Blk.drew)) (by repeat (first | assumption | with_reducible apply Blk.alloc | with_reducible apply Blk.drew))) ((first
        | (go_at_call 24; refine (number_any _ _ _ _).mono ?_; rintro e w2 ⟨rfl, rfl⟩)
        | (go_at_call 25; refine (wide_any _ _).mono ?_; rintro e w2 ⟨rfl, rfl⟩)))
      go_wp2
      refine bodyPost_ret (results_tmp2 rfl _ _ _) rfl ?_
      refine formsPost_some (fs := _) rfl (formsAt_blk (cs := _) ?_ (blk_at ?_) rfl rfl rfl (by decide)) ?_
      · (repeat (first | simp only [World.size_alloc] | simp only [World.size_drew])); omega
      · first | rfl | omega | ((repeat (first | simp only [World.size_alloc] | simp only [World.size_drew])) <;> omega)
      · repeat (first | assumption | with_reducible apply Below.drew | (with_reducible refine Below.alloc ?_ (by (repeat (first | simp only [World.size_alloc] | simp only [World.size_drew])); omega) _))
    by_cases h3 : op = 3
    · subst h3
      clear h1 h2
      go_wp2
      go_region_held3 (fun w' => w'.cell? ⟨ga, 0, none⟩ = some (.int .u64 0) ∧ w'.cell? ⟨ga, 1, none⟩ = some (.int .u64 4095) ∧ w'.cell? ⟨ga, 2, none⟩ = some (.pointer (some ⟨g, 1, none⟩)) ∧ w'.cell? ⟨ga, 3, none⟩ = some (.pointer none) ∧ w'.cell? ⟨gb, 0, none⟩ = some (.int .u64 0) ∧ w'.cell? ⟨gb, 1, none⟩ = some (.int .u64 4095) ∧ w'.cell? ⟨gb, 2, none⟩ = some (.pointer (some ⟨g, 2, none⟩)) ∧ w'.cell? ⟨gb, 3, none⟩ = some (.pointer none)) (exact keep8 (by repeat (first | assumption | with_reducible apply Blk.alloc | with_reducible apply Blk.drew)) (by repeat (first | assumption | with_reducible apply Blk.alloc | with_reducible apply Blk.drew))) ((first
        | (go_at_call 24; refine (number_any _ _ _ _).mono ?_; rintro e w2 ⟨rfl, rfl⟩)
        | (go_at_call 25; refine (wide_any _ _).mono ?_; rintro e w2 ⟨rfl, rfl⟩)))
      go_wp2
      refine bodyPost_ret (results_tmp2 rfl _ _ _) rfl ?_
      refine formsPost_some (fs := _) rfl (formsAt_blk (cs := _) ?_ (blk_at ?_) rfl rfl rfl (by decide)) ?_
      · (repeat (first | simp only [World.size_alloc] | simp only [World.size_drew])); omega
      · first | rfl | omega | ((repeat (first | simp only [World.size_alloc] | simp only [World.size_drew])) <;> omega)
      · repeat (first | assumption | with_reducible apply Below.drew | (with_reducible refine Below.alloc ?_ (by (repeat (first | simp only [World.size_alloc] | simp only [World.size_drew])); omega) _))
    by_cases h4 : op = 4
    · subst h4
      clear h1 h2 h3
      go_wp2_with fail
      refine bodyPost_ret (results_tmp2 rfl _ _ _) rfl ?_
      refine formsPost_some (fs := _) rfl (formsAt_blk (cs := _) ?_ (blk_at ?_) rfl rfl rfl (by decide)) ?_
      · omega
      · rfl
      · repeat (first | assumption | with_reducible apply Below.drew | (with_reducible refine Below.alloc ?_ (by (repeat (first | simp only [World.size_alloc] | simp only [World.size_drew])); omega) _))
    by_cases h5 : op = 5
    · subst h5
      clear h1 h2 h3 h4
      go_wp2_with fail
      refine bodyPost_ret (results_tmp2 rfl _ _ _) rfl ?_
      refine formsPost_some (fs := _) rfl (formsAt_blk (cs := _) ?_ (blk_at ?_) rfl rfl rfl (by decide)) ?_
      · omega
      · rfl
      · repeat (first | assumption | with_reducible apply Below.drew | (with_reducible refine Below.alloc ?_ (by (repeat (first | simp only [World.size_alloc] | simp only [World.size_drew])); omega) _))
    by_cases h6 : op = 6
    · subst h6
      clear h1 h2 h3 h4 h5
      go_wp2_with fail
      refine bodyPost_ret (results_tmp2 rfl _ _ _) rfl ?_
      refine formsPost_some (fs := _) rfl (formsAt_blk (cs := _) ?_ (blk_at ?_) rfl rfl rfl (by decide)) ?_
      · omega
      · rfl
      · repeat (first | assumption | with_reducible apply Below.drew | (with_reducible refine Below.alloc ?_ (by (repeat (first | simp only [World.size_alloc] | simp only [World.size_drew])); omega) _))
    by_cases h7 : op = 7
    · subst h7
      clear h1 h2 h3 h4 h5 h6
      go_wp2
      go_region_held3 (fun w' => w'.cell? ⟨ga, 0, none⟩ = some (.int .u64 0) ∧ w'.cell? ⟨ga, 1, none⟩ = some (.int .u64 4095) ∧ w'.cell? ⟨ga, 2, none⟩ = some (.pointer (some ⟨g, 1, none⟩)) ∧ w'.cell? ⟨ga, 3, none⟩ = some (.pointer none) ∧ w'.cell? ⟨gb, 0, none⟩ = some (.int .u64 0) ∧ w'.cell? ⟨gb, 1, none⟩ = some (.int .u64 4095) ∧ w'.cell? ⟨gb, 2, none⟩ = some (.pointer (some ⟨g, 2, none⟩)) ∧ w'.cell? ⟨gb, 3, none⟩ = some (.pointer none)) (exact keep8 (by repeat (first | assumption | with_reducible apply Blk.alloc | with_reducible apply Blk.drew)) (by repeat (first | assumption | with_reducible apply Blk.alloc | with_reducible apply Blk.drew))) ((first
        | (go_at_call 24; refine (number_any _ _ _ _).mono ?_; rintro e w2 ⟨rfl, rfl⟩)
        | (go_at_call 25; refine (wide_any _ _).mono ?_; rintro e w2 ⟨rfl, rfl⟩)))
      go_wp2
      refine bodyPost_ret (results_tmp2 rfl _ _ _) rfl ?_
      refine formsPost_some (fs := _) rfl (formsAt_blk (cs := _) ?_ (blk_at ?_) rfl rfl rfl (by decide)) ?_
      · (repeat (first | simp only [World.size_alloc] | simp only [World.size_drew])); omega
      · first | rfl | omega | ((repeat (first | simp only [World.size_alloc] | simp only [World.size_drew])) <;> omega)
      · repeat (first | assumption | with_reducible apply Below.drew | (with_reducible refine Below.alloc ?_ (by (repeat (first | simp only [World.size_alloc] | simp only [World.size_drew])); omega) _))
    by_cases h8 : op = 8
    · subst h8
      clear h1 h2 h3 h4 h5 h6 h7
      go_wp2
      go_region_held3 (fun w' => w'.cell? ⟨ga, 0, none⟩ = some (.int .u64 0) ∧ w'.cell? ⟨ga, 1, none⟩ = some (.int .u64 4095) ∧ w'.cell? ⟨ga, 2, none⟩ = some (.pointer (some ⟨g, 1, none⟩)) ∧ w'.cell? ⟨ga, 3, none⟩ = some (.pointer none) ∧ w'.cell? ⟨gb, 0, none⟩ = some (.int .u64 0) ∧ w'.cell? ⟨gb, 1, none⟩ = some (.int .u64 4095) ∧ w'.cell? ⟨gb, 2, none⟩ = some (.pointer (some ⟨g, 2, none⟩)) ∧ w'.cell? ⟨gb, 3, none⟩ = some (.pointer none)) (exact keep8 (by repeat (first | assumption | with_reducible apply Blk.alloc | with_reducible apply Blk.drew)) (by repeat (first | assumption | with_reducible apply Blk.alloc | with_reducible apply Blk.drew))) ((first
        | (go_at_call 24; refine (number_any _ _ _ _).mono ?_; rintro e w2 ⟨rfl, rfl⟩)
        | (go_at_call 25; refine (wide_any _ _).mono ?_; rintro e w2 ⟨rfl, rfl⟩)))
      go_wp2
      refine bodyPost_ret (results_tmp2 rfl _ _ _) rfl ?_
      refine formsPost_some (fs := _) rfl (formsAt_blk (cs := _) ?_ (blk_at ?_) rfl rfl rfl (by decide)) ?_
      · (repeat (first | simp only [World.size_alloc] | simp only [World.size_drew])); omega
      · first | rfl | omega | ((repeat (first | simp only [World.size_alloc] | simp only [World.size_drew])) <;> omega)
      · repeat (first | assumption | with_reducible apply Below.drew | (with_reducible refine Below.alloc ?_ (by (repeat (first | simp only [World.size_alloc] | simp only [World.size_drew])); omega) _))
    by_cases h9 : op = 9
    · subst h9
      clear h1 h2 h3 h4 h5 h6 h7 h8
      go_wp2_with fail
      refine bodyPost_ret (results_tmp2 rfl _ _ _) rfl ?_
      refine formsPost_some (fs := _) rfl (formsAt_blk (cs := _) ?_ (blk_at ?_) rfl rfl rfl (by decide)) ?_
      · omega
      · rfl
      · repeat (first | assumption | with_reducible apply Below.drew | (with_reducible refine Below.alloc ?_ (by (repeat (first | simp only [World.size_alloc] | simp only [World.size_drew])); omega) _))
    by_cases h10 : op = 10
    · subst h10
      clear h1 h2 h3 h4 h5 h6 h7 h8 h9
      go_wp2
      go_region_held3 (fun w' => w'.cell? ⟨ga, 0, none⟩ = some (.int .u64 0) ∧ w'.cell? ⟨ga, 1, none⟩ = some (.int .u64 4095) ∧ w'.cell? ⟨ga, 2, none⟩ = some (.pointer (some ⟨g, 1, none⟩)) ∧ w'.cell? ⟨ga, 3, none⟩ = some (.pointer none) ∧ w'.cell? ⟨gb, 0, none⟩ = some (.int .u64 0) ∧ w'.cell? ⟨gb, 1, none⟩ = some (.int .u64 4095) ∧ w'.cell? ⟨gb, 2, none⟩ = some (.pointer (some ⟨g, 2, none⟩)) ∧ w'.cell? ⟨gb, 3, none⟩ = some (.pointer none)) (exact keep8 (by repeat (first | assumption | with_reducible apply Blk.alloc | with_reducible apply Blk.drew)) (by repeat (first | assumption | with_reducible apply Blk.alloc | with_reducible apply Blk.drew))) ((first
        | (go_at_call 24; refine (number_any _ _ _ _).mono ?_; rintro e w2 ⟨rfl, rfl⟩)
        | (go_at_call 25; refine (wide_any _ _).mono ?_; rintro e w2 ⟨rfl, rfl⟩)))
      go_wp2
      refine bodyPost_ret (results_tmp2 rfl _ _ _) rfl ?_
      refine formsPost_some (fs := _) rfl (formsAt_blk (cs := _) ?_ (blk_at ?_) rfl rfl rfl (by decide)) ?_
      · (repeat (first | simp only [World.size_alloc] | simp only [World.size_drew])); omega
      · first | rfl | omega | ((repeat (first | simp only [World.size_alloc] | simp only [World.size_drew])) <;> omega)
      · repeat (first | assumption | with_reducible apply Below.drew | (with_reducible refine Below.alloc ?_ (by (repeat (first | simp only [World.size_alloc] | simp only [World.size_drew])); omega) _))
    by_cases h11 : op = 11
    · subst h11
      clear h1 h2 h3 h4 h5 h6 h7 h8 h9 h10
      go_wp2_with fail
      refine bodyPost_ret (results_tmp2 rfl _ _ _) rfl ?_
      refine formsPost_some (fs := _) rfl (formsAt_blk (cs := _) ?_ (blk_at ?_) rfl rfl rfl (by decide)) ?_
      · omega
      · rfl
      · repeat (first | assumption | with_reducible apply Below.drew | (with_reducible refine Below.alloc ?_ (by (repeat (first | simp only [World.size_alloc] | simp only [World.size_drew])); omega) _))
    by_cases h12 : op = 12
    · subst h12
      clear h1 h2 h3 h4 h5 h6 h7 h8 h9 h10 h11
      go_wp2_with fail
      refine bodyPost_ret (results_tmp2 rfl _ _ _) rfl ?_
      refine formsPost_some (fs := _) rfl (formsAt_blk (cs := _) ?_ (blk_at ?_) rfl rfl rfl (by decide)) ?_
      · omega
      · rfl
      · repeat (first | assumption | with_reducible apply Below.drew | (with_reducible refine Below.alloc ?_ (by (repeat (first | simp only [World.size_alloc] | simp only [World.size_drew])); omega) _))
    by_cases h13 : op = 13
    · subst h13
      clear h1 h2 h3 h4 h5 h6 h7 h8 h9 h10 h11 h12
      go_wp2_with fail
      refine bodyPost_ret (results_tmp2 rfl _ _ _) rfl ?_
      refine formsPost_some (fs := _) rfl (formsAt_blk (cs := _) ?_ (blk_at ?_) rfl rfl rfl (by decide)) ?_
      · omega
      · rfl
      · repeat (first | assumption | with_reducible apply Below.drew | (with_reducible refine Below.alloc ?_ (by (repeat (first | simp only [World.size_alloc] | simp only [World.size_drew])); omega) _))
    by_cases h14 : op = 14
    · subst h14
      clear h1 h2 h3 h4 h5 h6 h7 h8 h9 h10 h11 h12 h13
      have hAl := hA.lt
      have hBl := hB.lt
      obtain ⟨i0, hi0, hz0, hz1, hz2'⟩ := info_parts formInfo
      go_wp2
      go_region_held3 (fun w' => w'.cell? ⟨ga, 0, none⟩ = some (.int .u64 0) ∧ w'.cell? ⟨ga, 1, none⟩ = some (.int .u64 4095) ∧ w'.cell? ⟨ga, 2, none⟩ = some (.pointer (some ⟨g, 1, none⟩)) ∧ w'.cell? ⟨ga, 3, none⟩ = some (.pointer none) ∧ w'.cell? ⟨gb, 0, none⟩ = some (.int .u64 0) ∧ w'.cell? ⟨gb, 1, none⟩ = some (.int .u64 4095) ∧ w'.cell? ⟨gb, 2, none⟩ = some (.pointer (some ⟨g, 2, none⟩)) ∧ w'.cell? ⟨gb, 3, none⟩ = some (.pointer none)) (exact keep8 (by repeat (first | assumption | with_reducible apply Blk.alloc | with_reducible apply Blk.drew)) (by repeat (first | assumption | with_reducible apply Blk.alloc | with_reducible apply Blk.drew))) (first
        | (go_at_call 24; refine (number_any _ _ _ _).mono ?_; rintro e w2 ⟨rfl, rfl⟩)
        | (go_at_call 26; refine (msg_any _ _).mono ?_; rintro e w2 ⟨gm, rfl, hmz, hm, hmb⟩; have hA2 : Blk w2 ga 57 (addrCells g 1) := blk_call (by repeat (first | assumption | with_reducible apply Blk.alloc | with_reducible apply Blk.drew)) hmb; have hB2 : Blk w2 gb 57 (addrCells g 2) := blk_call (by repeat (first | assumption | with_reducible apply Blk.alloc | with_reducible apply Blk.drew)) hmb; have hL2 : Below w.heap.size w w2 := Below.trans (b := _) (by repeat (first | assumption | with_reducible apply Below.drew | (with_reducible refine Below.alloc ?_ (by (repeat (first | simp only [World.size_alloc] | simp only [World.size_drew])); omega) _))) (hmb.mono (by (repeat (first | simp only [World.size_alloc] | simp only [World.size_drew])); omega)); have hz2 := hmb.size; (first | (have hS2 : Blk w2 (wc.heap.size + 1) 57 #[.int .u64 0, .int .u64 4095, .pointer (some ⟨g, 1, none⟩), .pointer none, .int .u64 0, .int .u64 4096, .pointer (some ⟨g, 4, none⟩), .pointer none] := blk_call (by first | exact blk_at (by simp only [World.size_alloc]) | exact (blk_at (by simp only [World.size_alloc])).drew) hmb) | skip))
        | (refine step_append_lies _ rfl (.tmp 122) (.tmp 124) 46 rfl w.heap.size 57 i0 (.agg #[.int .u64 0, .int .u64 0, .pointer none, .pointer none]) 4 32 Try.underlying46 hi0 hz0 hz1 hz2' rfl (by decide) _ 2 (Array.toList #[.int .u64 0, .int .u64 4095, .pointer (some ⟨g, 1, none⟩), .pointer none, .int .u64 0, .int .u64 4096, .pointer (some ⟨g, 4, none⟩), .pointer none]) (by rfl) (own_blk (by (first | omega | ((repeat (first | simp only [World.size_alloc] at * | simp only [World.size_drew] at *)) <;> omega))) (by first | exact hS2 | exact blk_at rfl | exact (blk_at rfl).drew) rfl rfl (by decide)) ⟨gm, 0, none⟩ 4 4 (msgCells g).toList (by rfl) rfl (World.news_of_block (by first | exact hm | exact hm.alloc _ | exact (hm.alloc _).drew)) (one_msg g) (by decide) (by decide) (by decide) (by (first | omega | ((repeat (first | simp only [World.size_alloc] at * | simp only [World.size_drew] at *)) <;> omega))) _ rfl ?_; intro g' cap w3 hown3 hgrow hat hlt'; have hA3 : Blk w3 ga 57 (addrCells g 1) := Blk.grown (by first | exact hA2 | exact hA2.alloc _ | exact (hA2.alloc _).drew) hgrow (own_ne (by (first | omega | ((repeat (first | simp only [World.size_alloc] at * | simp only [World.size_drew] at *)) <;> omega)))); have hB3 : Blk w3 gb 57 (addrCells g 2) := Blk.grown (by first | exact hB2 | exact hB2.alloc _ | exact (hB2.alloc _).drew) hgrow (own_ne (by (first | omega | ((repeat (first | simp only [World.size_alloc] at * | simp only [World.size_drew] at *)) <;> omega)))); have hL3 : Below w.heap.size w w3 := below_mod (b := _) (by first | exact hL2 | exact hL2.alloc hL2.size _ | exact (hL2.alloc hL2.size _).drew) (Nat.le_refl _) ((Mod.refl (fun k => w.heap.size ≤ k) _).grown hgrow (fun k e => .inl (own_le (by (first | omega | ((repeat (first | simp only [World.size_alloc] at * | simp only [World.size_drew] at *)) <;> omega))) k e))) (fun k h => h)))
      all_goals
        go_wp2
        refine bodyPost_ret (results_tmp2 rfl _ _ _) rfl ?_
        exact formsPost_some (fs := _) rfl hown3 hL3
    by_cases h15 : op = 15
    · subst h15
      clear h1 h2 h3 h4 h5 h6 h7 h8 h9 h10 h11 h12 h13 h14
      have hAl := hA.lt
      have hBl := hB.lt
      obtain ⟨i0, hi0, hz0, hz1, hz2'⟩ := info_parts formInfo
      go_wp2
      go_region_held3 (fun w' => w'.cell? ⟨ga, 0, none⟩ = some (.int .u64 0) ∧ w'.cell? ⟨ga, 1, none⟩ = some (.int .u64 4095) ∧ w'.cell? ⟨ga, 2, none⟩ = some (.pointer (some ⟨g, 1, none⟩)) ∧ w'.cell? ⟨ga, 3, none⟩ = some (.pointer none) ∧ w'.cell? ⟨gb, 0, none⟩ = some (.int .u64 0) ∧ w'.cell? ⟨gb, 1, none⟩ = some (.int .u64 4095) ∧ w'.cell? ⟨gb, 2, none⟩ = some (.pointer (some ⟨g, 2, none⟩)) ∧ w'.cell? ⟨gb, 3, none⟩ = some (.pointer none)) (exact keep8 (by repeat (first | assumption | with_reducible apply Blk.alloc | with_reducible apply Blk.drew)) (by repeat (first | assumption | with_reducible apply Blk.alloc | with_reducible apply Blk.drew))) (first
        | (go_at_call 24; refine (number_any _ _ _ _).mono ?_; rintro e w2 ⟨rfl, rfl⟩)
        | (go_at_call 26; refine (msg_any _ _).mono ?_; rintro e w2 ⟨gm, rfl, hmz, hm, hmb⟩; have hA2 : Blk w2 ga 57 (addrCells g 1) := blk_call (by repeat (first | assumption | with_reducible apply Blk.alloc | with_reducible apply Blk.drew)) hmb; have hB2 : Blk w2 gb 57 (addrCells g 2) := blk_call (by repeat (first | assumption | with_reducible apply Blk.alloc | with_reducible apply Blk.drew)) hmb; have hL2 : Below w.heap.size w w2 := Below.trans (b := _) (by repeat (first | assumption | with_reducible apply Below.drew | (with_reducible refine Below.alloc ?_ (by (repeat (first | simp only [World.size_alloc] | simp only [World.size_drew])); omega) _))) (hmb.mono (by (repeat (first | simp only [World.size_alloc] | simp only [World.size_drew])); omega)); have hz2 := hmb.size; (first | (have hS2 : Blk w2 (wc.heap.size + 1) 57 #[.int .u64 0, .int .u64 4095, .pointer (some ⟨g, 1, none⟩), .pointer none, .int .u64 0, .int .u64 4096, .pointer (some ⟨g, 4, none⟩), .pointer none] := blk_call (by first | exact blk_at (by simp only [World.size_alloc]) | exact (blk_at (by simp only [World.size_alloc])).drew) hmb) | skip))
        | (refine step_append_lies _ rfl (.tmp 122) (.tmp 124) 46 rfl w.heap.size 57 i0 (.agg #[.int .u64 0, .int .u64 0, .pointer none, .pointer none]) 4 32 Try.underlying46 hi0 hz0 hz1 hz2' rfl (by decide) _ 2 (Array.toList #[.int .u64 0, .int .u64 4095, .pointer (some ⟨g, 1, none⟩), .pointer none, .int .u64 0, .int .u64 4096, .pointer (some ⟨g, 4, none⟩), .pointer none]) (by rfl) (own_blk (by (first | omega | ((repeat (first | simp only [World.size_alloc] at * | simp only [World.size_drew] at *)) <;> omega))) (by first | exact hS2 | exact blk_at rfl | exact (blk_at rfl).drew) rfl rfl (by decide)) ⟨gm, 0, none⟩ 4 4 (msgCells g).toList (by rfl) rfl (World.news_of_block (by first | exact hm | exact hm.alloc _ | exact (hm.alloc _).drew)) (one_msg g) (by decide) (by decide) (by decide) (by (first | omega | ((repeat (first | simp only [World.size_alloc] at * | simp only [World.size_drew] at *)) <;> omega))) _ rfl ?_; intro g' cap w3 hown3 hgrow hat hlt'; have hA3 : Blk w3 ga 57 (addrCells g 1) := Blk.grown (by first | exact hA2 | exact hA2.alloc _ | exact (hA2.alloc _).drew) hgrow (own_ne (by (first | omega | ((repeat (first | simp only [World.size_alloc] at * | simp only [World.size_drew] at *)) <;> omega)))); have hB3 : Blk w3 gb 57 (addrCells g 2) := Blk.grown (by first | exact hB2 | exact hB2.alloc _ | exact (hB2.alloc _).drew) hgrow (own_ne (by (first | omega | ((repeat (first | simp only [World.size_alloc] at * | simp only [World.size_drew] at *)) <;> omega)))); have hL3 : Below w.heap.size w w3 := below_mod (b := _) (by first | exact hL2 | exact hL2.alloc hL2.size _ | exact (hL2.alloc hL2.size _).drew) (Nat.le_refl _) ((Mod.refl (fun k => w.heap.size ≤ k) _).grown hgrow (fun k e => .inl (own_le (by (first | omega | ((repeat (first | simp only [World.size_alloc] at * | simp only [World.size_drew] at *)) <;> omega))) k e))) (fun k h => h)))
      all_goals
        go_wp2
        refine bodyPost_ret (results_tmp2 rfl _ _ _) rfl ?_
        exact formsPost_some (fs := _) rfl hown3 hL3
    by_cases h16 : op = 16
    · subst h16
      clear h1 h2 h3 h4 h5 h6 h7 h8 h9 h10 h11 h12 h13 h14 h15
      go_wp2
      go_region_held3 (fun w' => w'.cell? ⟨ga, 0, none⟩ = some (.int .u64 0) ∧ w'.cell? ⟨ga, 1, none⟩ = some (.int .u64 4095) ∧ w'.cell? ⟨ga, 2, none⟩ = some (.pointer (some ⟨g, 1, none⟩)) ∧ w'.cell? ⟨ga, 3, none⟩ = some (.pointer none) ∧ w'.cell? ⟨gb, 0, none⟩ = some (.int .u64 0) ∧ w'.cell? ⟨gb, 1, none⟩ = some (.int .u64 4095) ∧ w'.cell? ⟨gb, 2, none⟩ = some (.pointer (some ⟨g, 2, none⟩)) ∧ w'.cell? ⟨gb, 3, none⟩ = some (.pointer none)) (exact keep8 (by repeat (first | assumption | with_reducible apply Blk.alloc | with_reducible apply Blk.drew)) (by repeat (first | assumption | with_reducible apply Blk.alloc | with_reducible apply Blk.drew))) ((first
        | (go_at_call 24; refine (number_any _ _ _ _).mono ?_; rintro e w2 ⟨rfl, rfl⟩)
        | (go_at_call 25; refine (wide_any _ _).mono ?_; rintro e w2 ⟨rfl, rfl⟩)))
      go_wp2
      refine bodyPost_ret (results_tmp2 rfl _ _ _) rfl ?_
      refine formsPost_some (fs := _) rfl (formsAt_blk (cs := _) ?_ (blk_at ?_) rfl rfl rfl (by decide)) ?_
      · (repeat (first | simp only [World.size_alloc] | simp only [World.size_drew])); omega
      · first | rfl | omega | ((repeat (first | simp only [World.size_alloc] | simp only [World.size_drew])) <;> omega)
      · repeat (first | assumption | with_reducible apply Below.drew | (with_reducible refine Below.alloc ?_ (by (repeat (first | simp only [World.size_alloc] | simp only [World.size_drew])); omega) _))
    by_cases h17 : op = 17
    · subst h17
      clear h1 h2 h3 h4 h5 h6 h7 h8 h9 h10 h11 h12 h13 h14 h15 h16
      go_wp2_with fail
      refine (msg_any _ _).mono ?_
      rintro e w2 ⟨gl, rfl, hz, hl, hb⟩
      go_wp2_with fail
      refine bodyPost_ret (results_tmp2 rfl _ _ _) rfl ?_
      exact formsPost_some (fs := _) rfl (formsAt_blk (Nat.le_trans hkz hz) hl rfl rfl rfl (by decide)) (hK2.trans (hb.mono hkz))
    by_cases h18 : op = 18
    · subst h18
      clear h1 h2 h3 h4 h5 h6 h7 h8 h9 h10 h11 h12 h13 h14 h15 h16 h17
      go_wp2_with fail
      refine bodyPost_ret (results_tmp2 rfl _ _ _) rfl ?_
      exact formsPost_some (fs := []) rfl ⟨rfl, .inl ⟨rfl, rfl⟩⟩ hK2
    by_cases h19 : op = 19
    · subst h19
      clear h1 h2 h3 h4 h5 h6 h7 h8 h9 h10 h11 h12 h13 h14 h15 h16 h17 h18
      go_wp2
      go_region_held3 (fun w' => w'.cell? ⟨ga, 0, none⟩ = some (.int .u64 0) ∧ w'.cell? ⟨ga, 1, none⟩ = some (.int .u64 4095) ∧ w'.cell? ⟨ga, 2, none⟩ = some (.pointer (some ⟨g, 1, none⟩)) ∧ w'.cell? ⟨ga, 3, none⟩ = some (.pointer none) ∧ w'.cell? ⟨gb, 0, none⟩ = some (.int .u64 0) ∧ w'.cell? ⟨gb, 1, none⟩ = some (.int .u64 4095) ∧ w'.cell? ⟨gb, 2, none⟩ = some (.pointer (some ⟨g, 2, none⟩)) ∧ w'.cell? ⟨gb, 3, none⟩ = some (.pointer none)) (exact keep8 (by repeat (first | assumption | with_reducible apply Blk.alloc | with_reducible apply Blk.drew)) (by repeat (first | assumption | with_reducible apply Blk.alloc | with_reducible apply Blk.drew))) ((first
        | (go_at_call 24; refine (number_any _ _ _ _).mono ?_; rintro e w2 ⟨rfl, rfl⟩)
        | (go_at_call 25; refine (wide_any _ _).mono ?_; rintro e w2 ⟨rfl, rfl⟩)))
      go_wp2
      refine bodyPost_ret (results_tmp2 rfl _ _ _) rfl ?_
      refine formsPost_some (fs := _) rfl (formsAt_blk (cs := _) ?_ (blk_at ?_) rfl rfl rfl (by decide)) ?_
      · (repeat (first | simp only [World.size_alloc] | simp only [World.size_drew])); omega
      · first | rfl | omega | ((repeat (first | simp only [World.size_alloc] | simp only [World.size_drew])) <;> omega)
      · repeat (first | assumption | with_reducible apply Below.drew | (with_reducible refine Below.alloc ?_ (by (repeat (first | simp only [World.size_alloc] | simp only [World.size_drew])); omega) _))
    by_cases h20 : op = 20
    · subst h20
      clear h1 h2 h3 h4 h5 h6 h7 h8 h9 h10 h11 h12 h13 h14 h15 h16 h17 h18 h19
      go_wp2
      go_region_held3 (fun w' => w'.cell? ⟨ga, 0, none⟩ = some (.int .u64 0) ∧ w'.cell? ⟨ga, 1, none⟩ = some (.int .u64 4095) ∧ w'.cell? ⟨ga, 2, none⟩ = some (.pointer (some ⟨g, 1, none⟩)) ∧ w'.cell? ⟨ga, 3, none⟩ = some (.pointer none) ∧ w'.cell? ⟨gb, 0, none⟩ = some (.int .u64 0) ∧ w'.cell? ⟨gb, 1, none⟩ = some (.int .u64 4095) ∧ w'.cell? ⟨gb, 2, none⟩ = some (.pointer (some ⟨g, 2, none⟩)) ∧ w'.cell? ⟨gb, 3, none⟩ = some (.pointer none)) (exact keep8 (by repeat (first | assumption | with_reducible apply Blk.alloc | with_reducible apply Blk.drew)) (by repeat (first | assumption | with_reducible apply Blk.alloc | with_reducible apply Blk.drew))) ((first
        | (go_at_call 24; refine (number_any _ _ _ _).mono ?_; rintro e w2 ⟨rfl, rfl⟩)
        | (go_at_call 25; refine (wide_any _ _).mono ?_; rintro e w2 ⟨rfl, rfl⟩)))
      go_wp2
      refine bodyPost_ret (results_tmp2 rfl _ _ _) rfl ?_
      refine formsPost_some (fs := _) rfl (formsAt_blk (cs := _) ?_ (blk_at ?_) rfl rfl rfl (by decide)) ?_
      · (repeat (first | simp only [World.size_alloc] | simp only [World.size_drew])); omega
      · first | rfl | omega | ((repeat (first | simp only [World.size_alloc] | simp only [World.size_drew])) <;> omega)
      · repeat (first | assumption | with_reducible apply Below.drew | (with_reducible refine Below.alloc ?_ (by (repeat (first | simp only [World.size_alloc] | simp only [World.size_drew])); omega) _))
    by_cases h21 : op = 21
    · subst h21
      clear h1 h2 h3 h4 h5 h6 h7 h8 h9 h10 h11 h12 h13 h14 h15 h16 h17 h18 h19 h20
      go_wp2_with fail
      refine bodyPost_ret (results_tmp2 rfl _ _ _) rfl ?_
      refine formsPost_some (fs := _) rfl (formsAt_blk (cs := _) ?_ (blk_at ?_) rfl rfl rfl (by decide)) ?_
      · omega
      · rfl
      · repeat (first | assumption | with_reducible apply Below.drew | (with_reducible refine Below.alloc ?_ (by (repeat (first | simp only [World.size_alloc] | simp only [World.size_drew])); omega) _))
    by_cases h22 : op = 22
    · subst h22
      clear h1 h2 h3 h4 h5 h6 h7 h8 h9 h10 h11 h12 h13 h14 h15 h16 h17 h18 h19 h20 h21
      go_wp2_with fail
      refine bodyPost_ret (results_tmp2 rfl _ _ _) rfl ?_
      refine formsPost_some (fs := _) rfl (formsAt_blk (cs := _) ?_ (blk_at ?_) rfl rfl rfl (by decide)) ?_
      · omega
      · rfl
      · repeat (first | assumption | with_reducible apply Below.drew | (with_reducible refine Below.alloc ?_ (by (repeat (first | simp only [World.size_alloc] | simp only [World.size_drew])); omega) _))
    by_cases h23 : op = 23
    · subst h23
      clear h1 h2 h3 h4 h5 h6 h7 h8 h9 h10 h11 h12 h13 h14 h15 h16 h17 h18 h19 h20 h21 h22
      go_wp2
      go_region_held3 (fun w' => w'.cell? ⟨ga, 0, none⟩ = some (.int .u64 0) ∧ w'.cell? ⟨ga, 1, none⟩ = some (.int .u64 4095) ∧ w'.cell? ⟨ga, 2, none⟩ = some (.pointer (some ⟨g, 1, none⟩)) ∧ w'.cell? ⟨ga, 3, none⟩ = some (.pointer none) ∧ w'.cell? ⟨gb, 0, none⟩ = some (.int .u64 0) ∧ w'.cell? ⟨gb, 1, none⟩ = some (.int .u64 4095) ∧ w'.cell? ⟨gb, 2, none⟩ = some (.pointer (some ⟨g, 2, none⟩)) ∧ w'.cell? ⟨gb, 3, none⟩ = some (.pointer none)) (exact keep8 (by repeat (first | assumption | with_reducible apply Blk.alloc | with_reducible apply Blk.drew)) (by repeat (first | assumption | with_reducible apply Blk.alloc | with_reducible apply Blk.drew))) ((first
        | (go_at_call 24; refine (number_any _ _ _ _).mono ?_; rintro e w2 ⟨rfl, rfl⟩)
        | (go_at_call 25; refine (wide_any _ _).mono ?_; rintro e w2 ⟨rfl, rfl⟩)))
      go_wp2
      refine bodyPost_ret (results_tmp2 rfl _ _ _) rfl ?_
      refine formsPost_some (fs := _) rfl (formsAt_blk (cs := _) ?_ (blk_at ?_) rfl rfl rfl (by decide)) ?_
      · (repeat (first | simp only [World.size_alloc] | simp only [World.size_drew])); omega
      · first | rfl | omega | ((repeat (first | simp only [World.size_alloc] | simp only [World.size_drew])) <;> omega)
      · repeat (first | assumption | with_reducible apply Below.drew | (with_reducible refine Below.alloc ?_ (by (repeat (first | simp only [World.size_alloc] | simp only [World.size_drew])); omega) _))
    have hnone : formL op = none := by unfold formL; simp only [h1, h2, h3, h4, h5, h6, h7, h8, h9, h10, h11, h12, h13, h14, h15, h16, h17, h18, h19, h20, h21, h22, h23, if_false]
    go_wp2_with fail
    refine bodyPost_ret (results_tmp2 rfl _ _ _) rfl ?_
    exact formsPost_none hnone hK2
end Go.Proofs.Ytofmcaagnhdecaa
