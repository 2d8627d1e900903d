/- The walks of package phys that go over all frames: all, Zero, Copy. -/
import Derived.Test.YtfjhchcnhmafkaaPhys
import Derived.Test.YtfjhchcnhmafkaaIter
import Derived.Laws.Rows
import Derived.Deep.AppendLies
import Derived.Deep.MidRow
import Derived.BigQuiet
import Derived.Sort.BigQuietIn
namespace Go.Proofs.Ytfjhchcnhmafkaa
open Go.RowKit Go.Shelf
attribute [local go_sem] Oper.semAt_some

theorem MemAt.same {w w' : World} {g gf n cp : Nat} {m : Nat → Int} (h : MemAt w g gf n cp m) (h1 : w'.heap[g]? = w.heap[g]?) (h2 : w'.heap[gf]? = w.heap[gf]?) : MemAt w' g gf n cp m := by
  obtain ⟨cs, hr, hs, hc⟩ := h.row
  exact ⟨h.hd.same h1, ⟨cs, hr.same h2, hs, hc⟩, h.pos, h.le, h.ncp, h.word⟩

set_option maxHeartbeats 1000000 in
theorem all_in (F : Fence) (n : Nat) (hF : WideF F Try.prog) (hro : F.round = none) (p : Option Addr) (from_ : Nat) (w : World) :
    CallsIn F n Try.prog 50 #[.pointer p, .int .i64 from_] w fun e w' => e = .returned (.func (.func 59) #[] #[.pointer (some ⟨w.heap.size + 1, 0, none⟩), .pointer (some ⟨w.heap.size, 0, none⟩)]) ∧
      w' = (w.alloc (.cells #[.pointer p] 36)).alloc (.cells #[.int .i64 from_] 3) := by
  refine callsIn_of_wp Try.func50 rfl (hF.fn _) ?_ hro
  simp only [Try.ntmps50, List.size_toArray, List.length_cons, List.length_nil, Nat.reduceAdd, Nat.reduceSub, Array.replicate_succ, Array.replicate_zero, List.push_toArray, List.append_toArray, List.nil_append, List.cons_append]
  gi_wp2
  go_ret
  exact ⟨rfl, rfl⟩

set_option maxRecDepth 100000 in
set_option maxHeartbeats 1000000 in
theorem all_iter (F : Fence) (n : Nat) (hF : WideF F Try.prog) (hro : F.round = none) (hn : 1 ≤ n) (g gf N cp from_ Bf Bm : Nat) (w : World) (hd : Blk w g 101 #[.slice (some ⟨gf, 0, none⟩) N cp]) (hN : N ≤ 64)
    (bf : Blk w Bf 3 #[.int .i64 from_]) (bm : Blk w Bm 36 #[.pointer (some ⟨g, 0, none⟩)]) (hfr : from_ ≤ N) :
    Iter F n Try.prog 59 #[.pointer (some ⟨Bf, 0, none⟩), .pointer (some ⟨Bm, 0, none⟩)] (fun x : Nat => #[.int .i64 (x : Int), .pointer (some ⟨gf, x * 8, none⟩)])
      (fun pre x _ => x = from_ + pre.length ∧ x < N) (fun _ _ => KeepB fun k => k = g ∨ k = Bf ∨ k = Bm) (fun xs _ => xs.length = N - from_) w := by
  intro l J Jx W hsk hl hJ hJx hY h0
  replace hd := hsk.blk hd
  replace bf := hsk.blk bf
  replace bm := hsk.blk bm
  have c0 := bf.cell 0
  refine callsIn_of_wp Try.func59 rfl (hF.fn _) ?_ hro
  simp only [Try.ntmps59, List.size_toArray, List.length_cons, List.length_nil, Nat.reduceAdd, Nat.reduceSub, Array.replicate_succ, Array.replicate_zero, List.push_toArray, List.append_toArray, List.nil_append, List.cons_append]
  have HF := hide hF
  have HY := hide hY
  clear hF hY hJ hJx
  gi_wp2
  gi_loopw [4] (fun i wr => ∃ (k : Nat) (ys : List Nat), from_ ≤ k ∧ k ≤ N ∧ i = .int .i64 k ∧ ys.length + from_ = k ∧ J ys wr ∧ Blk wr g 101 #[.slice (some ⟨gf, 0, none⟩) N cp] ∧ Blk wr Bf 3 #[.int .i64 from_] ∧ Blk wr Bm 36 #[.pointer (some ⟨g, 0, none⟩)]) (fun i _ => 64 - (intOf i).toNat)
  case atStart => exact ⟨from_, [], Nat.le_refl _, hfr, rfl, by simp, h0, hd, bf, bm⟩
  case round =>
    obtain ⟨k, ys, hk1, hk2, rfl, hlen, hj, hd', bf', bm'⟩ := hrel
    have d0 := hd'.cell 0
    have m0 := bm'.cell 0
    have HL := hide hlen
    clear hlen
    by_cases hlt : k < N
    · obtain ⟨fn, tmps, assign, body, hy, hR⟩ := HY.out ys k wr hj ⟨by have := HL.out; omega, hlt⟩
      gi_wp2
      refine hR.mono ?_
      rintro e W3 (⟨rfl, hJ3, hk3⟩ | ⟨rfl, hJx3⟩)
      · gi_wp2
        go_roundw
        case rel => exact ⟨k + 1, ys ++ [k], by omega, by omega, by simp, by have := HL.out; simp; omega, hJ3, hk3.blk hd' (.inl rfl), hk3.blk bf' (.inr (.inl rfl)), hk3.blk bm' (.inr (.inr rfl))⟩
        case measure => simp [intOf]; omega
      · gi_wp2
        refine bodyPost_ret (results_none rfl _ _ _) rfl ?_
        exact ⟨⟨_, rfl⟩, .inr ⟨_, hJx3⟩⟩
    · gi_wp2
      go_end0
      exact ⟨⟨_, rfl⟩, .inl ⟨ys, by have := HL.out; omega, hj⟩⟩

theorem frameA_one (m : Nat → Int) (k : Nat) : ∀ u ∈ (frameA m k).toList, u.oneCell' = true := by
  intro u hu
  simp [frameA] at hu
  rcases hu with rfl | rfl | rfl | rfl | rfl | rfl | rfl | rfl <;> rfl
/-! Zero: n frames from f on. -/
def zeroTo (m : Nat → Int) (f k : Nat) : Nat → Int := fun j => if 8 * f ≤ j ∧ j < 8 * (f + k) then 0 else m j
def zeroErr (n : Nat) (f k : Int) : Int := if f < 0 ∨ (n : Int) ≤ f ∨ k < 0 ∨ (n : Int) - f < k then 3 else 0

theorem wrap_sub {n f : Int} (h0 : 0 ≤ f) (h1 : f ≤ n) (h2 : n ≤ 64) : IntKind.i64.wrap (n - f) = n - f := IntWalk.i64_in _ (by omega)
set_option maxHeartbeats 1000000 in
theorem zero_bad (g gf n cp : Nat) (m : Nat → Int) (f k : Int) (w : World) (hM : MemAt w g gf n cp m) (h : f < 0 ∨ (n : Int) ≤ f ∨ k < 0 ∨ (n : Int) - f < k) :
    Calls Try.prog 25 #[.pointer (some ⟨g, 0, none⟩), .int .i64 f, .int .i64 k] w fun e w' => e = .returned (.int .i64 3) ∧ Below w.heap.size w w' := by
  have c0 := hM.hd.cell 0
  have hn := hM.le
  have hlt := hM.hd.lt
  have HM := hide hM
  clear hM
  by_cases h1 : f < 0
  · clear h
    have d1 : decide (f < 0) = true := by simpa using h1
    go_enter Try.func25, Try.ntmps25
    go_wp2
    go_quiet (fail)
    go_wp2
    go_ret
    exact ⟨rfl, below_drewN (((Below.refl _ _).alloc (Nat.le_refl _) _).alloc (by simp) _) _⟩
  · by_cases h2 : (n : Int) ≤ f
    · clear h
      have d1 : decide (f < 0) = false := by simpa using h1
      have d2 : decide ((n : Int) ≤ f) = true := by simpa using h2
      go_enter Try.func25, Try.ntmps25
      go_wp2
      go_quiet (fail)
      go_wp2
      go_ret
      exact ⟨rfl, below_drewN (((Below.refl _ _).alloc (Nat.le_refl _) _).alloc (by simp) _) _⟩
    · by_cases h3 : k < 0
      · clear h
        have d1 : decide (f < 0) = false := by simpa using h1
        have d2 : decide ((n : Int) ≤ f) = false := by simpa using h2
        have d3 : decide (k < 0) = true := by simpa using h3
        go_enter Try.func25, Try.ntmps25
        go_wp2
        go_quiet (fail)
        go_wp2
        go_ret
        exact ⟨rfl, below_drewN (((Below.refl _ _).alloc (Nat.le_refl _) _).alloc (by simp) _) _⟩
      · have h4 : (n : Int) - f < k := by omega
        clear h
        have d1 : decide (f < 0) = false := by simpa using h1
        have d2 : decide ((n : Int) ≤ f) = false := by simpa using h2
        have d3 : decide (k < 0) = false := by simpa using h3
        have d4 : decide ((n : Int) - f < k) = true := by simpa using h4
        have wr := wrap_sub (n := n) (f := f) (by omega) (by omega) (by omega)
        go_enter Try.func25, Try.ntmps25
        go_wp2
        go_quiet (fail)
        go_wp2
        go_ret
        exact ⟨rfl, below_drewN (((Below.refl _ _).alloc (Nat.le_refl _) _).alloc (by simp) _) _⟩

theorem MemAt.zero8 {w : World} {g gf n cp : Nat} {m : Nat → Int} (h : MemAt w g gf n cp m) (x : Nat) (hx : x < n) :
    MemAt ((((((((w.setCell ⟨gf, x * 8, none⟩ (.int .u64 0)).setCell ⟨gf, x * 8 + 1, none⟩ (.int .u64 0)).setCell ⟨gf, x * 8 + 2, none⟩ (.int .u64 0)).setCell ⟨gf, x * 8 + 3, none⟩ (.int .u64 0)).setCell ⟨gf, x * 8 + 4, none⟩ (.int .u64 0)).setCell ⟨gf, x * 8 + 5, none⟩ (.int .u64 0)).setCell ⟨gf, x * 8 + 6, none⟩ (.int .u64 0)).setCell ⟨gf, x * 8 + 7, none⟩ (.int .u64 0)) g gf n cp
      (fun j => if x * 8 ≤ j ∧ j < x * 8 + 8 then 0 else m j) := by
  have h0 : (0 : Int) ≤ 0 ∧ (0 : Int) < 18446744073709551616 := by decide
  have hr := (((((((h.set_ (x * 8) (by omega) 0 h0).set_ (x * 8 + 1) (by omega) 0 h0).set_ (x * 8 + 2) (by omega) 0 h0).set_ (x * 8 + 3) (by omega) 0 h0).set_ (x * 8 + 4) (by omega) 0 h0).set_ (x * 8 + 5) (by omega) 0 h0).set_ (x * 8 + 6) (by omega) 0 h0).set_ (x * 8 + 7) (by omega) 0 h0
  have e : (fun j => if x * 8 ≤ j ∧ j < x * 8 + 8 then 0 else m j) = (fun i => if i = x * 8 + 7 then (0 : Int) else if i = x * 8 + 6 then 0 else if i = x * 8 + 5 then 0 else if i = x * 8 + 4 then 0 else if i = x * 8 + 3 then 0 else if i = x * 8 + 2 then 0 else if i = x * 8 + 1 then 0 else if i = x * 8 then 0 else m i) := by
    funext j
    by_cases hj : x * 8 ≤ j ∧ j < x * 8 + 8
    · rw [if_pos hj]
      repeat' split
      all_goals first | rfl | omega
    · rw [if_neg hj, if_neg (by omega), if_neg (by omega), if_neg (by omega), if_neg (by omega), if_neg (by omega), if_neg (by omega), if_neg (by omega), if_neg (by omega)]
  rw [e]
  exact hr
theorem zeroTo_succ {m : Nat → Int} {f k x : Nat} (hx : x = f + k) : (fun j => if x * 8 ≤ j ∧ j < x * 8 + 8 then 0 else zeroTo m f k j) = zeroTo m f (k + 1) := by
  subst hx
  funext j
  unfold zeroTo
  by_cases h1 : (f + k) * 8 ≤ j ∧ j < (f + k) * 8 + 8
  · rw [if_pos h1, if_pos (by omega)]
  · rw [if_neg h1]
    by_cases h2 : 8 * f ≤ j ∧ j < 8 * (f + k)
    · rw [if_pos h2, if_pos (by omega)]
    · rw [if_neg h2, if_neg (by omega)]
theorem Mod.set8 {S : Nat → Prop} {a w : World} {g : Nat} (h : Mod S a w) (hg : S g) (u : Value) (o0 o1 o2 o3 o4 o5 o6 o7 : Nat) :
    Mod S a ((((((((w.setCell ⟨g, o0, none⟩ u).setCell ⟨g, o1, none⟩ u).setCell ⟨g, o2, none⟩ u).setCell ⟨g, o3, none⟩ u).setCell ⟨g, o4, none⟩ u).setCell ⟨g, o5, none⟩ u).setCell ⟨g, o6, none⟩ u).setCell ⟨g, o7, none⟩ u) :=
  (((((((h.setCell (.inl hg) u).setCell (.inl hg) u).setCell (.inl hg) u).setCell (.inl hg) u).setCell (.inl hg) u).setCell (.inl hg) u).setCell (.inl hg) u).setCell (.inl hg) u
theorem KeepsFrom.set8 (B : Nat) (w : World) (g : Nat) (u : Value) (o0 o1 o2 o3 o4 o5 o6 o7 : Nat) :
    KeepsFrom B w ((((((((w.setCell ⟨g, o0, none⟩ u).setCell ⟨g, o1, none⟩ u).setCell ⟨g, o2, none⟩ u).setCell ⟨g, o3, none⟩ u).setCell ⟨g, o4, none⟩ u).setCell ⟨g, o5, none⟩ u).setCell ⟨g, o6, none⟩ u).setCell ⟨g, o7, none⟩ u) :=
  (keeps_set (keeps_set (keeps_set (keeps_set (keeps_set (keeps_set (keeps_set (keeps_set (KeepsOthers.refl w))))))))).from B

set_option maxRecDepth 100000 in
set_option maxHeartbeats 2000000 in
theorem zero_in_F (F : Fence) (q : Nat) (hF : WideF F Try.prog) (hro : F.round = none) (hq : 3 ≤ q) (g gf n cp : Nat) (m : Nat → Int) (f k : Nat) (w : World) (hM : MemAt w g gf n cp m) (h1 : f < n) (h2 : f + k ≤ n) :
    CallsIn F q Try.prog 25 #[.pointer (some ⟨g, 0, none⟩), .int .i64 f, .int .i64 k] w fun e w' => e = .returned (.int .i64 0) ∧ MemAt w' g gf n cp (zeroTo m f k) ∧ Mod (· = gf) w w' := by
  have c0 := hM.hd.cell 0
  have hn := hM.le
  have hlt := hM.hd.lt
  have hltf := hM.ltf
  have hq1 : 1 ≤ q := by omega
  have d1 : decide ((f : Int) < 0) = false := by simp
  have d2 : decide (n ≤ f) = false := by simp; omega
  have d3 : decide ((k : Int) < 0) = false := by simp
  have d4 : decide ((n : Int) - f < k) = false := by simp; omega
  have wr := wrap_sub (n := n) (f := f) (by omega) (by omega) (by omega)
  have HM := hide hM
  have HF := hide hF
  have hfn := hF.fn
  refine callsIn_of_wp_marks Try.func25 rfl (hF.fn _) ?_ hro
  clear hF hM
  simp only [Try.ntmps25, List.size_toArray, List.length_cons, List.length_nil, Nat.reduceAdd, Nat.reduceSub, Array.replicate_succ, Array.replicate_zero, List.push_toArray, List.append_toArray, List.nil_append, List.cons_append]
  gi_wp2
  refine wpIn_region_quiet_lit hro (by kernel_rfl) (by kernel_rfl) ?_
  repeat (gi_big_quiet_step (fail))
  refine wpQuietIn_nil ?_
  intro _ hw'
  obtain ⟨nq, hw''⟩ := hw'
  subst hw''
  gi_wp2_with (gi_at_call 50; refine (all_in F (q - 1) HF.out hro _ _ _).mono ?_; rintro e w' ⟨rfl, rfl⟩)
  have b0 : Blk (((((w.alloc (.cells #[.int .i64 f] 3)).alloc (.cells #[.int .i64 k] 3)).drewN nq).alloc (.cells #[.pointer (some ⟨g, 0, none⟩)] 36)).alloc (.cells #[.int .i64 f] 3)) w.heap.size 3 #[.int .i64 f] :=
    ((((Blk.new w _ _).alloc _).drewN nq).alloc _).alloc _
  have b1 := (((Blk.new (w.alloc (.cells #[.int .i64 f] 3)) 3 #[.int .i64 k]).drewN nq).alloc (.cells #[.pointer (some ⟨g, 0, none⟩)] 36)).alloc (.cells #[.int .i64 f] 3)
  have b2 := (Blk.new (((w.alloc (.cells #[.int .i64 f] 3)).alloc (.cells #[.int .i64 k] 3)).drewN nq) 36 #[.pointer (some ⟨g, 0, none⟩)]).alloc (.cells #[.int .i64 f] 3)
  have b3 := Blk.new ((((w.alloc (.cells #[.int .i64 f] 3)).alloc (.cells #[.int .i64 k] 3)).drewN nq).alloc (.cells #[.pointer (some ⟨g, 0, none⟩)] 36)) 3 #[.int .i64 f]
  simp only [World.size_alloc, World.heap_drewN] at b1 b2 b3
  have hm0 : Mod (· = gf) w (((((w.alloc (.cells #[.int .i64 f] 3)).alloc (.cells #[.int .i64 k] 3)).drewN nq).alloc (.cells #[.pointer (some ⟨g, 0, none⟩)] 36)).alloc (.cells #[.int .i64 f] 3)) :=
    (((((Mod.refl _ w).alloc _).alloc _).drewN _).alloc _).alloc _
  have hM0 : MemAt (((((w.alloc (.cells #[.int .i64 f] 3)).alloc (.cells #[.int .i64 k] 3)).drewN nq).alloc (.cells #[.pointer (some ⟨g, 0, none⟩)] 36)).alloc (.cells #[.int .i64 f] 3)) g gf n cp m :=
    HM.out.below (B := w.heap.size) ((below_drewN (((Below.refl _ w).alloc (Nat.le_refl _) _).alloc (by simp) _) nq).alloc (by simp; omega) _ |>.alloc (by simp; omega) _) hlt hltf
  generalize (((((w.alloc (.cells #[.int .i64 f] 3)).alloc (.cells #[.int .i64 k] 3)).drewN nq).alloc (.cells #[.pointer (some ⟨g, 0, none⟩)] 36)).alloc (.cells #[.int .i64 f] 3)) = W0 at *
  refine' wpIn_iter1 hro hq1 (gf := 59) (lb := _) rfl (hfn _) (enters_of Try.func59 (by kernel_rfl) rfl) (all_iter F (q - 1) HF.out hro (by omega) g gf n cp f _ _ W0 hM0.hd hn b3 b2 (by omega))
    (fun pre x A B C D h1 h2 h3 => ?hK) (fun _ _ _ _ h _ => h) (fun _ _ _ h _ => h) (fun _ => rfl)
    (fun pre W => MemAt W g gf n cp (zeroTo m f pre.length) ∧ Blk W w.heap.size 3 #[.int .i64 f] ∧ Blk W (w.heap.size + 1) 3 #[.int .i64 k] ∧ pre.length ≤ k ∧ Mod (· = gf) w W)
    (fun c _ W => c = .exit 1 ∧ MemAt W g gf n cp (zeroTo m f k) ∧ Mod (· = gf) w W)
    ?hI ?hIx ?h0 _ ?assign ?body ?done ?stop
  case assign =>
    intro l x W K hK
    gi_wp2
    exact hK
  case body =>
    rintro l pre x W hl hr ⟨hM, hb0, hb1, hle, hmod⟩ ⟨hx1, hx2⟩
    have hxf : f ≤ x := by omega
    have c00 := hb0.cell 0
    have c01 := hb1.cell 0
    have HX := hide hx1
    have Hhr := hide hr
    have HMW := hide hM
    by_cases hk : (x : Int) - f < k
    · have k0 := hM.cell (x * 8) (by omega)
      have k1 := hM.cell (x * 8 + 1) (by omega)
      have k2 := hM.cell (x * 8 + 2) (by omega)
      have k3 := hM.cell (x * 8 + 3) (by omega)
      have k4 := hM.cell (x * 8 + 4) (by omega)
      have k5 := hM.cell (x * 8 + 5) (by omega)
      have k6 := hM.cell (x * 8 + 6) (by omega)
      have k7 := hM.cell (x * 8 + 7) (by omega)
      have f0 := hM.frozen (x * 8)
      have f1 := hM.frozen (x * 8 + 1)
      have f2 := hM.frozen (x * 8 + 2)
      have f3 := hM.frozen (x * 8 + 3)
      have f4 := hM.frozen (x * 8 + 4)
      have f5 := hM.frozen (x * 8 + 5)
      have f6 := hM.frozen (x * 8 + 6)
      have f7 := hM.frozen (x * 8 + 7)
      clear hM hr hx1
      gi_wp2
      have hM8 := HMW.out.zero8 x hx2
      rw [zeroTo_succ HX.out] at hM8
      have hm8 := hmod.set8 (g := gf) rfl (.int .u64 0) (x * 8) (x * 8 + 1) (x * 8 + 2) (x * 8 + 3) (x * 8 + 4) (x * 8 + 5) (x * 8 + 6) (x * 8 + 7)
      have ho8 := (Mod.refl (· = gf) W).set8 (g := gf) rfl (.int .u64 0) (x * 8) (x * 8 + 1) (x * 8 + 2) (x * 8 + 3) (x * 8 + 4) (x * 8 + 5) (x * 8 + 6) (x * 8 + 7)
      refine ⟨KeepsFrom.set8 _ _ _ _ _ _ _ _ _ _ _ _, KeepB.of_mod ho8 (fun b hb => ?_), by simpa using hM8, hb0.mod ho8 (by omega), hb1.mod ho8 (by omega), by simp; have := HX.out; omega, hm8⟩
      have hne := HMW.out.ne
      omega
    · clear hM hr hx1
      gi_wp2
      exact ⟨KeepsFrom.refl _ _, rfl, by rw [show k = pre.length by have := HX.out; omega]; exact HMW.out, hmod⟩
  case hK =>
    have := hM0.hd.lt
    have := b3.lt
    exact KeepB.skips (fun k hk => by omega) h1 h2 h3
  case hI => exact fun s A C h hk => ⟨h.1.same (hk.same h.1.hd) (by obtain ⟨cs, hb, _⟩ := h.1.row; exact hk.same hb), hk.blk h.2.1, hk.blk h.2.2.1, h.2.2.2.1, h.2.2.2.2.skips hk hm0.size⟩
  case hIx => exact fun c s A C h hk => ⟨h.1, h.2.1.same (hk.same h.2.1.hd) (by obtain ⟨cs, hb, _⟩ := h.2.1.row; exact hk.same hb), h.2.2.skips hk hm0.size⟩
  case h0 =>
    refine ⟨?_, b0, b1, Nat.zero_le _, hm0⟩
    have e : zeroTo m f ([] : List Nat).length = m := by funext j; unfold zeroTo; rw [if_neg (by simp only [List.length_nil]; omega)]
    rw [e]; exact hM0
  case done =>
    rintro D xs W hD hlen ⟨hM, _, _, hle, hmod⟩ hd
    have HL := hide hlen
    have HMW := hide hM
    clear hlen hM
    gi_wp2
    have sk := Skips.putObj (B := W0.heap.size) hd rfl hD (.deferred none)
    have hek : xs.length = k := by have := HL.out; omega
    rw [hek] at HMW
    refine ⟨by simp, .inl ⟨_, _, rfl, run_takeDeferred hd, ?_⟩⟩
    refine ⟨.int .i64 0, by simp [results, Try.f25, go_sem], rfl, ?_, hmod.skips sk hm0.size⟩
    exact HMW.out.same (sk.same HMW.out.hd) (by obtain ⟨cs, hb, _⟩ := HMW.out.row; exact sk.same hb)
  case stop =>
    rintro D c pre W hD ⟨rfl, hM, hmod⟩ hd
    have HMW := hide hM
    clear hM
    gi_wp2
    have sk := Skips.putObj (B := W0.heap.size) hd rfl hD (.deferred none)
    refine ⟨by simp, .inl ⟨_, _, rfl, run_takeDeferred hd, ?_⟩⟩
    refine ⟨.int .i64 0, by simp [results, Try.f25, go_sem], rfl, ?_, hmod.skips sk hm0.size⟩
    exact HMW.out.same (sk.same HMW.out.hd) (by obtain ⟨cs, hb, _⟩ := HMW.out.row; exact sk.same hb)
theorem zero_in (g gf n cp : Nat) (m : Nat → Int) (f k : Nat) (w : World) (hM : MemAt w g gf n cp m) (h1 : f < n) (h2 : f + k ≤ n) :
    Calls Try.prog 25 #[.pointer (some ⟨g, 0, none⟩), .int .i64 f, .int .i64 k] w fun e w' => e = .returned (.int .i64 0) ∧ MemAt w' g gf n cp (zeroTo m f k) ∧ Mod (· = gf) w w' :=
  callsIn_wide.1 (zero_in_F Fence.wide 10 (wideF _) rfl (by omega) g gf n cp m f k w hM h1 h2)
/-- Zero of any numbers. -/
def zeroV (n : Nat) (m : Nat → Int) (f k : Int) : Nat → Int := if zeroErr n f k = 0 then zeroTo m f.toNat k.toNat else m
theorem zero_any (g gf n cp : Nat) (m : Nat → Int) (f k : Int) (w : World) (hM : MemAt w g gf n cp m) :
    Calls Try.prog 25 #[.pointer (some ⟨g, 0, none⟩), .int .i64 f, .int .i64 k] w fun e w' => e = .returned (.int .i64 (zeroErr n f k)) ∧ MemAt w' g gf n cp (zeroV n m f k) ∧ Mod (· = gf) w w' := by
  unfold zeroV zeroErr
  by_cases h : f < 0 ∨ (n : Int) ≤ f ∨ k < 0 ∨ (n : Int) - f < k
  · rw [if_pos h, if_neg (by decide)]
    exact (zero_bad g gf n cp m f k w hM h).mono fun e w' ⟨he, hb⟩ => ⟨he, hM.below hb hM.hd.lt hM.ltf, Mod.of_below hb _⟩
  · rw [if_neg h, if_pos rfl]
    obtain ⟨f, rfl⟩ := Int.eq_ofNat_of_zero_le (by omega : 0 ≤ f)
    obtain ⟨k, rfl⟩ := Int.eq_ofNat_of_zero_le (by omega : 0 ≤ k)
    exact zero_in g gf n cp m f k w hM (by omega) (by omega)
end Go.Proofs.Ytfjhchcnhmafkaa
