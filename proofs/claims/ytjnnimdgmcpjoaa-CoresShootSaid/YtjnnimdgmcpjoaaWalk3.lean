/- The walks of package walk: the iterator of levels. -/
import Derived.Test.YtjnnimdgmcpjoaaWalk2
import Derived.Sort.BigQuietIn
namespace Go.Proofs.Ytjnnimdgmcpjoaa
open Go.RowKit Go.Shelf
attribute [local go_sem] Oper.semAt_some

/-- Cells lie as they lay, but for the blocks of T. -/
def KeepC (T : Nat → Prop) (A B : World) : Prop := ∀ (k : Nat) (o : Obj), A.heap[k]? = some o → o.isCells = true → ¬ T k → B.heap[k]? = some o
theorem KeepC.refl (T : Nat → Prop) (A : World) : KeepC T A A := fun _ _ h _ _ => h
theorem KeepC.blk {T : Nat → Prop} {A B : World} {g : Nat} {t : TypeId} {cs : Array Value} (h : KeepC T A B) (hb : Blk A g t cs) (hT : ¬ T g) : Blk B g t cs := h g _ hb rfl hT
theorem KeepC.of_mod {T : Nat → Prop} {A B : World} (h : Mod T A B) : KeepC T A B := fun k _ ho _ hT => (h.block k (Array.getElem?_eq_some_iff.1 ho).1 hT).trans ho
theorem KeepC.trans {T : Nat → Prop} {A B C : World} (h : KeepC T A B) (k : KeepC T B C) : KeepC T A C := fun i o hi hc hT => k i o (h i o hi hc hT) hc hT
theorem KeepC.skips {T : Nat → Prop} {n : Nat} {A B C D : World} (h1 : Skips n A B) (h2 : KeepC T B C) (h3 : Skips n C D) : KeepC T A D :=
  fun k o ho hc hT => h3.block k o (h2 k o (h1.block k o ho (.inl hc)) hc hT) (.inl hc)
theorem MemAt.keepC {T : Nat → Prop} {w w' : World} {g gf n cp : Nat} {m : Nat → Int} (h : MemAt w g gf n cp m) (hk : KeepC T w w') (h1 : ¬ T g) (h2 : ¬ T gf) : MemAt w' g gf n cp m := by
  obtain ⟨cs, hr, hs, hc⟩ := h.row
  exact ⟨hk.blk h.hd h1, ⟨cs, hk.blk hr h2, hs, hc⟩, h.pos, h.le, h.ncp, h.word⟩
theorem step_next {n : Nat} {m : Nat → Int} {root page k : Nat} (hd : (stepL n m root page).drop k = restL n m root page k) {x : Nat × Int × Int} {r : List (Nat × Int × Int)} (h : restL n m root page k = x :: r) : (stepL n m root page)[k]? = some x ∧ (stepL n m root page).drop (k + 1) = r := by
  have e : (stepL n m root page).drop k = x :: r := hd.trans h
  refine ⟨?_, ?_⟩
  · have := congrArg (fun l : List (Nat × Int × Int) => l[0]?) e
    simpa using this
  · rw [← List.drop_drop, e]; rfl
theorem step_len {n : Nat} {m : Nat → Int} {root page k : Nat} {x : Nat × Int × Int} (h1 : (stepL n m root page)[k]? = some x) (h2 : (stepL n m root page).drop (k + 1) = []) : (stepL n m root page).length = k + 1 := by
  have a := (List.getElem?_eq_some_iff.1 h1).1
  have b := List.drop_eq_nil_iff.1 h2
  omega
set_option maxRecDepth 100000 in
set_option maxHeartbeats 2000000 in
theorem levels_iter (F : Fence) (n : Nat) (hF : WideF F Try.prog) (hro : F.round = none) (hn : 1 ≤ n) (g gf N cp : Nat) (m : Nat → Int) (root page Br Bp Bm : Nat) (w : World) (hM : MemAt w g gf N cp m)
    (br : Blk w Br 3 #[.int .i64 (root : Int)]) (bp : Blk w Bp 3 #[.int .i64 (page : Int)]) (bm : Blk w Bm 24 #[.pointer (some ⟨g, 0, none⟩)]) (hr : root < N) (hp : page < 512)
    (T : Nat → Prop) (hT : ∀ k, T k → k < w.heap.size ∧ k ≠ g ∧ k ≠ gf ∧ k ≠ Br ∧ k ≠ Bp ∧ k ≠ Bm) :
    Iter F n Try.prog 90 #[.pointer (some ⟨Br, 0, none⟩), .pointer (some ⟨Bp, 0, none⟩), .pointer (some ⟨Bm, 0, none⟩)] (fun x : Nat × Int × Int => #[.int .i64 (x.1 : Int), .agg #[.int .u64 x.2.1, .int .i64 x.2.2]])
      (fun pre x _ => (stepL N m root page)[pre.length]? = some x) (fun _ _ => KeepC T) (fun xs _ => xs.length = (stepL N m root page).length) w := by
  intro l J Jx W hsk hl hJ hJx hY h0
  have hT' : ∀ k, w.heap.size ≤ k → ¬ T k := fun k hk h => by have := (hT k h).1; omega
  have tg : ¬ T g := fun h => (hT g h).2.1 rfl
  have tf : ¬ T gf := fun h => (hT gf h).2.2.1 rfl
  have tr : ¬ T Br := fun h => (hT Br h).2.2.2.1 rfl
  have tp : ¬ T Bp := fun h => (hT Bp h).2.2.2.2.1 rfl
  have tm : ¬ T Bm := fun h => (hT Bm h).2.2.2.2.2 rfl
  replace hM := hM.same (hsk.same hM.hd) (by obtain ⟨cs, hb, _⟩ := hM.row; exact hsk.same hb)
  replace br := hsk.blk br
  replace bp := hsk.blk bp
  replace bm := hsk.blk bm
  have hz := hsk.size
  have r0 := br.cell 0
  refine callsIn_of_wp Try.func90 rfl (hF.fn _) ?_ hro
  simp only [Try.ntmps90, List.size_toArray, List.length_cons, List.length_nil, Nat.reduceAdd, Nat.reduceSub, Array.replicate_succ, Array.replicate_zero, List.push_toArray, List.append_toArray, List.nil_append, List.cons_append]
  have hfn := hF.fn
  have hn64 := hM.le
  have HF := hide hF
  have HY := hide hY
  have HJ := hide hJ
  have HT := hide hT'
  have HX := hide (And.intro tg (And.intro tf (And.intro tr (And.intro tp tm))))
  clear hF hY hJ hJx hT hT' tg tf tr tp tm hsk
  gi_wp2
  gi_loopw [5, 6] (fun f i wr => ∃ (k : Nat) (ys : List (Nat × Int × Int)), 1 ≤ k ∧ k ≤ 3 ∧ f = .int .i64 (frN m root page k : Int) ∧ i = .int .i64 k ∧ ys.length = k - 1 ∧ frN m root page k < N ∧ (stepL N m root page)[k - 1]? = some (k, 8 * (wdN m root page k : Int), 0) ∧ (stepL N m root page).drop k = restL N m root page k ∧ J ys wr ∧ MemAt wr g gf N cp m ∧ Blk wr Br 3 #[.int .i64 (root : Int)] ∧ Blk wr Bp 3 #[.int .i64 (page : Int)] ∧ Blk wr Bm 24 #[.pointer (some ⟨g, 0, none⟩)] ∧ W.heap.size ≤ wr.heap.size) (fun _ i _ => 4 - (intOf i).toNat)
  case atStart => exact ⟨1, [], Nat.le_refl _, by decide, rfl, rfl, rfl, hr, rfl, rfl, h0, hM, br, bp, bm, Nat.le_refl _⟩
  case round =>
    obtain ⟨k, ys, hk1, hk3, rfl, rfl, hlen, hfr, hst, hdr, hj, hM', br', bp', bm', hzr⟩ := hrel
    clear r0 h0 br bp bm
    have p0 := bp'.cell 0
    have m0 := bm'.cell 0
    have hix := ixN_lt k hp
    have hidx := idx_nat hp hk1 hk3
    have hwd : (wdN m root page k : Int) = 8 * (frN m root page k : Int) + (ixN page k : Int) := by unfold wdN; omega
    have hjlt : wdN m root page k < 8 * N := by unfold wdN; omega
    have hj1 := HJ.out ys wr (wr.alloc (.cells #[.int .u64 (8 * (wdN m root page k : Int)), .int .i64 0] 169)) hj (Skips.alloc _ _ _)
    have HM1 := hide (hM'.on ((Below.refl _ wr).alloc (Nat.le_refl _) (.cells #[.int .u64 (8 * (wdN m root page k : Int)), .int .i64 0] 169)))
    have HR1 := hide (br'.alloc (.cells #[.int .u64 (8 * (wdN m root page k : Int)), .int .i64 0] 169))
    have HP1 := hide (bp'.alloc (.cells #[.int .u64 (8 * (wdN m root page k : Int)), .int .i64 0] 169))
    have HB1 := hide (bm'.alloc (.cells #[.int .u64 (8 * (wdN m root page k : Int)), .int .i64 0] 169))
    have HS1 := hide (Blk.new wr 169 #[.int .u64 (8 * (wdN m root page k : Int)), .int .i64 0])
    obtain ⟨fn, tmps, assign, body, hy, hR⟩ := HY.out ys (k, 8 * (wdN m root page k : Int), 0) _ hj1 (by rw [hlen]; exact hst)
    have HL := hide hlen
    have HD := hide hdr
    have HST := hide hst
    have HFR := hide hfr
    have HJ1 := hide hj1
    clear hlen hdr hst hj hj1 hM' br' bp' bm'
    have e1 : IntKind.i64.wrap ((frN m root page k : Int) * 64) = (frN m root page k : Int) * 64 := IntWalk.i64_in _ (by omega)
    have e2 : IntKind.i64.wrap (8 * (ixN page k : Int)) = 8 * (ixN page k : Int) := IntWalk.i64_in _ (by omega)
    have e3 : IntKind.i64.wrap ((frN m root page k : Int) * 64 + 8 * (ixN page k : Int)) = 8 * (wdN m root page k : Int) := by rw [IntWalk.i64_in _ (by omega)]; omega
    have e4 : IntKind.u64.wrap (8 * (wdN m root page k : Int)) = 8 * (wdN m root page k : Int) := IntWalk.u64_in _ (by omega)
    have HWD := hide hwd
    clear hwd
    gi_wp2_with (gi_at_call 91; refine (HF.out.calls (idx_any (page : Int) (k : Int) _)).mono ?_; rintro e w' ⟨rfl, rfl⟩; rw [hidx])
    refine hR.mono ?_
    rintro e W3 (⟨rfl, hJ3, hk3⟩ | ⟨rfl, hJx3⟩)
    · have HM3 := hide (HM1.out.keepC hk3 HX.out.1 HX.out.2.1)
      have hR3 := hk3.blk HR1.out HX.out.2.2.1
      have hP3 := hk3.blk HP1.out HX.out.2.2.2.1
      have hB3 := hk3.blk HB1.out HX.out.2.2.2.2
      have hS3 := hk3.blk HS1.out (HT.out _ (by omega))
      have hz3 := hS3.lt
      clear hR hy hk3 e1 e2 e3 e4 hidx hix p0 m0
      by_cases h3 : k = 3
      · subst h3
        have hdr := HD.out
        have hlen3 := step_len HST.out hdr
        have HLL := hide hlen3
        clear hdr hlen3
        gi_wp2
        refine bodyPost_ret (results_none rfl _ _ _) rfl ⟨⟨_, rfl⟩, .inl ⟨ys ++ [(3, 8 * (wdN m root page 3 : Int), 0)], ?_, hJ3⟩⟩
        rw [HLL.out, List.length_append, HL.out]
        rfl
      · have hk2 : k ≤ 2 := by omega
        have hk2' : (k : Int) < 3 := by omega
        have m0 := hB3.cell 0
        have s0 := hS3.cell 0
        have HR3 := hide hR3
        have HP3 := hide hP3
        have HB3 := hide hB3
        have HJ3 := hide hJ3
        clear hR3 hP3 hB3 hJ3
        by_cases hE : erN N m root page k = 0
        · obtain ⟨a1, a2, a3, a4⟩ := entE_zero hE
          obtain ⟨f1, f2⟩ := frN_succ hk1 hE
          have hC : entC N (m (wdN m root page k)) false = #[.bool true, .bool false, .bool (bitB (m (wdN m root page k)) 2), .bool (bitB (m (wdN m root page k)) 3), .int .i64 (frN m root page (k + 1) : Int)] := by
            unfold entC
            rw [if_pos (show entE N (m (wdN m root page k)) false = 0 from hE), a2, a3, f1]
          have hE' : entE N (m (wdN m root page k)) false = 0 := hE
          obtain ⟨n1, n2⟩ := step_next HD.out (restL_yes hk1 hk2 hE)
          have HN1 := hide n1
          have HN2 := hide n2
          have HF2 := hide f2
          clear hE a1 a2 a3 a4 f1 f2 n1 n2
          gi_wp2_with (gi_at_call 54; refine (HF.out.calls (entry_any g gf N cp m (wdN m root page k) false _ HM3.out hjlt)).mono ?_; rintro e w4 ⟨rfl, hb4⟩; rw [hC, hE'])
          go_roundw
          case rel =>
            have hx4 : Ext W3 (w4.alloc (.cells #[.bool true, .bool false, .bool (bitB (m (wdN m root page k)) 2), .bool (bitB (m (wdN m root page k)) 3), .int .i64 (frN m root page (k + 1) : Int)] 50)) := Ext.of_below (hb4.alloc hb4.size _)
            refine ⟨k + 1, ys ++ [(k, 8 * (wdN m root page k : Int), 0)], by omega, by omega, rfl, by go_num, ?_, HF2.out, HN1.out, HN2.out, HJ.out _ _ _ HJ3.out (hx4.skips _), HM3.out.on hx4.below, (hx4.skips 0).blk HR3.out, (hx4.skips 0).blk HP3.out, (hx4.skips 0).blk HB3.out, ?_⟩
            · rw [List.length_append, HL.out]; show k - 1 + 1 = k + 1 - 1; omega
            · have := hx4.size; omega
          case measure => simp [intOf]; omega
        · have hC : entC N (m (wdN m root page k)) false = #[.bool false, .bool false, .bool false, .bool false, .int .i64 0] := by
            unfold entC
            rw [if_neg (show ¬ entE N (m (wdN m root page k)) false = 0 from hE)]
          obtain ⟨n1, n2⟩ := step_next HD.out (restL_no hk1 hk2 hE)
          have hlen3 := step_len n1 n2
          obtain ⟨E, hEE⟩ : ∃ E, erN N m root page k = E := ⟨_, rfl⟩
          have hE' : entE N (m (wdN m root page k)) false = E := hEE
          rw [hEE] at hE n1
          have d : (E == 0) = false := by simpa using hE
          have HLL := hide hlen3
          have HN1 := hide n1
          clear hEE n1 n2 hlen3
          gi_wp2_with (gi_at_call 54; refine (HF.out.calls (entry_any g gf N cp m (wdN m root page k) false _ HM3.out hjlt)).mono ?_; rintro e w4 ⟨rfl, hb4⟩; rw [hC, hE']; have hx4 : Ext W3 (w4.alloc (.cells #[.bool false, .bool false, .bool false, .bool false, .int .i64 0] 50)) := Ext.of_below (hb4.alloc hb4.size _); obtain ⟨fn, tmps, assign, body, hy, hR⟩ := HY.out (ys ++ [(k, 8 * (wdN m root page k : Int), 0)]) (k + 1, 0, E) _ (HJ.out _ _ _ HJ3.out (hx4.skips _)) (by rw [List.length_append, HL.out]; exact (show k - 1 + 1 = k by omega) ▸ HN1.out); push_cast at hy; clear hx4 hb4)
          refine hR.mono ?_
          rintro e W5 (⟨rfl, hJ5, _⟩ | ⟨rfl, hJx5⟩)
          · gi_wp2
            refine bodyPost_ret (results_none rfl _ _ _) rfl ⟨⟨_, rfl⟩, .inl ⟨_, ?_, hJ5⟩⟩
            rw [HLL.out, List.length_append, List.length_append, HL.out]
            show k - 1 + 1 + 1 = k + 1
            omega
          · gi_wp2
            refine bodyPost_ret (results_none rfl _ _ _) rfl ?_
            exact ⟨⟨_, rfl⟩, .inr ⟨_, hJx5⟩⟩
    · gi_wp2
      refine bodyPost_ret (results_none rfl _ _ _) rfl ?_
      exact ⟨⟨_, rfl⟩, .inr ⟨_, hJx3⟩⟩
end Go.Proofs.Ytjnnimdgmcpjoaa
