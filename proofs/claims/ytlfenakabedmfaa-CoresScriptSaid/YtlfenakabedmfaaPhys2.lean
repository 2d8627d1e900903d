/- The walks of package phys that go over all frames: all, Zero, Copy. -/
import Derived.Test.YtlfenakabedmfaaPhys
import Derived.Test.YtlfenakabedmfaaIter
import Derived.Laws.Rows
import Derived.Deep.AppendLies
import Derived.Deep.MidRow
import Derived.BigQuiet
import Derived.Sort.BigQuietIn
namespace Go.Proofs.Ytlfenakabedmfaa
open Go.RowKit Go.Shelf
attribute [local go_sem] Oper.semAt_some

theorem MemAt.same {w w' : World} {g gf n cp : Nat} {m : Nat → Int} (h : MemAt w g gf n cp m) (h1 : w'.heap[g]? = w.heap[g]?) (h2 : w'.heap[gf]? = w.heap[gf]?) : MemAt w' g gf n cp m := by
  obtain ⟨cs, hr, hs, hc⟩ := h.row
  exact ⟨h.hd.same h1, ⟨cs, hr.same h2, hs, hc⟩, h.pos, h.le, h.ncp, h.word⟩

set_option maxHeartbeats 1000000 in
theorem all_in (F : Fence) (n : Nat) (hF : WideF F Try.prog) (hro : F.round = none) (p : Option Addr) (from_ : Nat) (w : World) :
    CallsIn F n Try.prog 72 #[.pointer p, .int .i64 from_] w fun e w' => e = .returned (.func (.func 88) #[] #[.pointer (some ⟨w.heap.size + 1, 0, none⟩), .pointer (some ⟨w.heap.size, 0, none⟩)]) ∧
      w' = (w.alloc (.cells #[.pointer p] 24)).alloc (.cells #[.int .i64 from_] 3) := by
  refine callsIn_of_wp Try.func72 rfl (hF.fn _) ?_ hro
  simp only [Try.ntmps72, List.size_toArray, List.length_cons, List.length_nil, Nat.reduceAdd, Nat.reduceSub, Array.replicate_succ, Array.replicate_zero, List.push_toArray, List.append_toArray, List.nil_append, List.cons_append]
  gi_wp2
  go_ret
  exact ⟨rfl, rfl⟩

set_option maxRecDepth 100000 in
set_option maxHeartbeats 1000000 in
theorem all_iter (F : Fence) (n : Nat) (hF : WideF F Try.prog) (hro : F.round = none) (hn : 1 ≤ n) (g gf N cp from_ Bf Bm : Nat) (w : World) (hd : Blk w g 95 #[.slice (some ⟨gf, 0, none⟩) N cp]) (hN : N ≤ 64)
    (bf : Blk w Bf 3 #[.int .i64 from_]) (bm : Blk w Bm 24 #[.pointer (some ⟨g, 0, none⟩)]) (hfr : from_ ≤ N) :
    Iter F n Try.prog 88 #[.pointer (some ⟨Bf, 0, none⟩), .pointer (some ⟨Bm, 0, none⟩)] (fun x : Nat => #[.int .i64 (x : Int), .pointer (some ⟨gf, x * 8, none⟩)])
      (fun pre x _ => x = from_ + pre.length ∧ x < N) (fun _ _ => KeepB fun k => k = g ∨ k = Bf ∨ k = Bm) (fun xs _ => xs.length = N - from_) w := by
  intro l J Jx W hsk hl hJ hJx hY h0
  replace hd := hsk.blk hd
  replace bf := hsk.blk bf
  replace bm := hsk.blk bm
  have c0 := bf.cell 0
  refine callsIn_of_wp Try.func88 rfl (hF.fn _) ?_ hro
  simp only [Try.ntmps88, List.size_toArray, List.length_cons, List.length_nil, Nat.reduceAdd, Nat.reduceSub, Array.replicate_succ, Array.replicate_zero, List.push_toArray, List.append_toArray, List.nil_append, List.cons_append]
  have HF := hide hF
  have HY := hide hY
  clear hF hY hJ hJx
  gi_wp2
  gi_loopw [4] (fun i wr => ∃ (k : Nat) (ys : List Nat), from_ ≤ k ∧ k ≤ N ∧ i = .int .i64 k ∧ ys.length + from_ = k ∧ J ys wr ∧ Blk wr g 95 #[.slice (some ⟨gf, 0, none⟩) N cp] ∧ Blk wr Bf 3 #[.int .i64 from_] ∧ Blk wr Bm 24 #[.pointer (some ⟨g, 0, none⟩)]) (fun i _ => 64 - (intOf i).toNat)
  case atStart => exact ⟨from_, [], Nat.le_refl _, hfr, rfl, by simp, h0, hd, bf, bm⟩
  case round =>
    obtain ⟨k, ys, hk1, hk2, rfl, hlen, hj, hd', bf', bm'⟩ := hrel
    have d0 := hd'.cell 0
    have m0 := bm'.cell 0
    have HL := hide hlen
    clear hlen
    by_cases hlt : k < N
    · obtain ⟨fn, tmps, assign, body, hy, hR⟩ := HY.out ys k wr hj ⟨by have := HL.out; omega, hlt⟩
      gi_wp2
      refine hR.mono ?_
      rintro e W3 (⟨rfl, hJ3, hk3⟩ | ⟨rfl, hJx3⟩)
      · gi_wp2
        go_roundw
        case rel => exact ⟨k + 1, ys ++ [k], by omega, by omega, by simp, by have := HL.out; simp; omega, hJ3, hk3.blk hd' (.inl rfl), hk3.blk bf' (.inr (.inl rfl)), hk3.blk bm' (.inr (.inr rfl))⟩
        case measure => simp [intOf]; omega
      · gi_wp2
        refine bodyPost_ret (results_none rfl _ _ _) rfl ?_
        exact ⟨⟨_, rfl⟩, .inr ⟨_, hJx3⟩⟩
    · gi_wp2
      go_end0
      exact ⟨⟨_, rfl⟩, .inl ⟨ys, by have := HL.out; omega, hj⟩⟩

theorem frameA_one (m : Nat → Int) (k : Nat) : ∀ u ∈ (frameA m k).toList, u.oneCell' = true := by
  intro u hu
  simp [frameA] at hu
  rcases hu with rfl | rfl | rfl | rfl | rfl | rfl | rfl | rfl <;> rfl
/-! Zero: n frames from f on. -/
def zeroTo (m : Nat → Int) (f k : Nat) : Nat → Int := fun j => if 8 * f ≤ j ∧ j < 8 * (f + k) then 0 else m j
def zeroErr (n : Nat) (f k : Int) : Int := if f < 0 ∨ (n : Int) ≤ f ∨ k < 0 ∨ (n : Int) - f < k then 3 else 0

theorem wrap_sub {n f : Int} (h0 : 0 ≤ f) (h1 : f ≤ n) (h2 : n ≤ 64) : IntKind.i64.wrap (n - f) = n - f := IntWalk.i64_in _ (by omega)
theorem MemAt.zero8 {w : World} {g gf n cp : Nat} {m : Nat → Int} (h : MemAt w g gf n cp m) (x : Nat) (hx : x < n) :
    MemAt ((((((((w.setCell ⟨gf, x * 8, none⟩ (.int .u64 0)).setCell ⟨gf, x * 8 + 1, none⟩ (.int .u64 0)).setCell ⟨gf, x * 8 + 2, none⟩ (.int .u64 0)).setCell ⟨gf, x * 8 + 3, none⟩ (.int .u64 0)).setCell ⟨gf, x * 8 + 4, none⟩ (.int .u64 0)).setCell ⟨gf, x * 8 + 5, none⟩ (.int .u64 0)).setCell ⟨gf, x * 8 + 6, none⟩ (.int .u64 0)).setCell ⟨gf, x * 8 + 7, none⟩ (.int .u64 0)) g gf n cp
      (fun j => if x * 8 ≤ j ∧ j < x * 8 + 8 then 0 else m j) := by
  have h0 : (0 : Int) ≤ 0 ∧ (0 : Int) < 18446744073709551616 := by decide
  have hr := (((((((h.set_ (x * 8) (by omega) 0 h0).set_ (x * 8 + 1) (by omega) 0 h0).set_ (x * 8 + 2) (by omega) 0 h0).set_ (x * 8 + 3) (by omega) 0 h0).set_ (x * 8 + 4) (by omega) 0 h0).set_ (x * 8 + 5) (by omega) 0 h0).set_ (x * 8 + 6) (by omega) 0 h0).set_ (x * 8 + 7) (by omega) 0 h0
  have e : (fun j => if x * 8 ≤ j ∧ j < x * 8 + 8 then 0 else m j) = (fun i => if i = x * 8 + 7 then (0 : Int) else if i = x * 8 + 6 then 0 else if i = x * 8 + 5 then 0 else if i = x * 8 + 4 then 0 else if i = x * 8 + 3 then 0 else if i = x * 8 + 2 then 0 else if i = x * 8 + 1 then 0 else if i = x * 8 then 0 else m i) := by
    funext j
    by_cases hj : x * 8 ≤ j ∧ j < x * 8 + 8
    · rw [if_pos hj]
      repeat' split
      all_goals first | rfl | omega
    · rw [if_neg hj, if_neg (by omega), if_neg (by omega), if_neg (by omega), if_neg (by omega), if_neg (by omega), if_neg (by omega), if_neg (by omega), if_neg (by omega)]
  rw [e]
  exact hr
theorem zeroTo_succ {m : Nat → Int} {f k x : Nat} (hx : x = f + k) : (fun j => if x * 8 ≤ j ∧ j < x * 8 + 8 then 0 else zeroTo m f k j) = zeroTo m f (k + 1) := by
  subst hx
  funext j
  unfold zeroTo
  by_cases h1 : (f + k) * 8 ≤ j ∧ j < (f + k) * 8 + 8
  · rw [if_pos h1, if_pos (by omega)]
  · rw [if_neg h1]
    by_cases h2 : 8 * f ≤ j ∧ j < 8 * (f + k)
    · rw [if_pos h2, if_pos (by omega)]
    · rw [if_neg h2, if_neg (by omega)]
theorem Mod.set8 {S : Nat → Prop} {a w : World} {g : Nat} (h : Mod S a w) (hg : S g) (u : Value) (o0 o1 o2 o3 o4 o5 o6 o7 : Nat) :
    Mod S a ((((((((w.setCell ⟨g, o0, none⟩ u).setCell ⟨g, o1, none⟩ u).setCell ⟨g, o2, none⟩ u).setCell ⟨g, o3, none⟩ u).setCell ⟨g, o4, none⟩ u).setCell ⟨g, o5, none⟩ u).setCell ⟨g, o6, none⟩ u).setCell ⟨g, o7, none⟩ u) :=
  (((((((h.setCell (.inl hg) u).setCell (.inl hg) u).setCell (.inl hg) u).setCell (.inl hg) u).setCell (.inl hg) u).setCell (.inl hg) u).setCell (.inl hg) u).setCell (.inl hg) u
theorem KeepsFrom.set8 (B : Nat) (w : World) (g : Nat) (u : Value) (o0 o1 o2 o3 o4 o5 o6 o7 : Nat) :
    KeepsFrom B w ((((((((w.setCell ⟨g, o0, none⟩ u).setCell ⟨g, o1, none⟩ u).setCell ⟨g, o2, none⟩ u).setCell ⟨g, o3, none⟩ u).setCell ⟨g, o4, none⟩ u).setCell ⟨g, o5, none⟩ u).setCell ⟨g, o6, none⟩ u).setCell ⟨g, o7, none⟩ u) :=
  (keeps_set (keeps_set (keeps_set (keeps_set (keeps_set (keeps_set (keeps_set (keeps_set (KeepsOthers.refl w))))))))).from B

/-- Zero of any numbers. -/
def zeroV (n : Nat) (m : Nat → Int) (f k : Int) : Nat → Int := if zeroErr n f k = 0 then zeroTo m f.toNat k.toNat else m
end Go.Proofs.Ytlfenakabedmfaa
