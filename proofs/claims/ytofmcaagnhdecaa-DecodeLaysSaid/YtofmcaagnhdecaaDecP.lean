/- The walks of package decode: a form's put and get, object, words. -/
import Derived.Test.YtofmcaagnhdecaaDecS
import Derived.Sort.BigQuietIn
import Derived.BigQuiet
namespace Go.Proofs.Ytofmcaagnhdecaa
open Go.RowKit Go.Shelf
attribute [local go_sem] Oper.semAt_some

def okVoid (R : World → Prop) (e : Ending) (w' : World) : Prop := (∃ v, e = .returned v) ∧ R w'
theorem put_n (lo hi x y : Int) (b o : Nat) (w : World) (hc : w.cell? ⟨b, o, none⟩ = some (.int .i64 y)) (hz : w.frozen? ⟨b, o, none⟩ = false) (hl : b < w.heap.size) (h0 : 0 ≤ x) (h1 : x ≤ 4096) :
    Calls Try.prog 17 #[.agg #[.int .u64 lo, .int .u64 hi, .pointer (some ⟨b, o, none⟩), .pointer none], .int .u64 x] w (okVoid fun w' => w' = (w.setCell ⟨b, o, none⟩ (.int .i64 x)).alloc (.cells #[.int .u64 lo, .int .u64 hi, .pointer (some ⟨b, o, none⟩), .pointer none] 57)) := by
  go_enter Try.func17, Try.ntmps17
  go_wp2_with fail
  go_end0
  exact ⟨⟨_, rfl⟩, rfl⟩
theorem put_w (lo hi x y : Int) (b o : Nat) (w : World) (hc : w.cell? ⟨b, o, none⟩ = some (.int .u64 y)) (hz : w.frozen? ⟨b, o, none⟩ = false) (hl : b < w.heap.size) :
    Calls Try.prog 17 #[.agg #[.int .u64 lo, .int .u64 hi, .pointer none, .pointer (some ⟨b, o, none⟩)], .int .u64 x] w (okVoid fun w' => w' = (w.setCell ⟨b, o, none⟩ (.int .u64 x)).alloc (.cells #[.int .u64 lo, .int .u64 hi, .pointer none, .pointer (some ⟨b, o, none⟩)] 57)) := by
  go_enter Try.func17, Try.ntmps17
  go_wp2_with fail
  go_end0
  exact ⟨⟨_, rfl⟩, rfl⟩
theorem get_n (lo hi y : Int) (b o : Nat) (w : World) (hc : w.cell? ⟨b, o, none⟩ = some (.int .i64 y)) (hl : b < w.heap.size) :
    Calls Try.prog 22 #[.agg #[.int .u64 lo, .int .u64 hi, .pointer (some ⟨b, o, none⟩), .pointer none]] w fun e w' => e = .returned (.int .u64 (IntKind.u64.wrap y)) ∧ w' = w.alloc (.cells #[.int .u64 lo, .int .u64 hi, .pointer (some ⟨b, o, none⟩), .pointer none] 57) := by
  go_enter Try.func22, Try.ntmps22
  go_wp2_with fail
  go_ret
  exact ⟨rfl, rfl⟩
theorem get_w (lo hi y : Int) (b o : Nat) (w : World) (hc : w.cell? ⟨b, o, none⟩ = some (.int .u64 y)) (hl : b < w.heap.size) :
    Calls Try.prog 22 #[.agg #[.int .u64 lo, .int .u64 hi, .pointer none, .pointer (some ⟨b, o, none⟩)]] w fun e w' => e = .returned (.int .u64 y) ∧ w' = w.alloc (.cells #[.int .u64 lo, .int .u64 hi, .pointer none, .pointer (some ⟨b, o, none⟩)] 57) := by
  go_enter Try.func22, Try.ntmps22
  go_wp2_with fail
  go_ret
  exact ⟨rfl, rfl⟩
theorem argAt_0 (x : Nat → Int) (w : World) : (Instr.index 23 (.agg #[.int .u64 (x 0), .int .u64 (x 1), .int .u64 (x 2), .int .u64 (x 3), .int .u64 (x 4), .int .u64 (x 5)]) (.int .i64 0)).run Try.prog w = .ok (.int .u64 (x 0)) w := by kernel_rfl
theorem argAt_1 (x : Nat → Int) (w : World) : (Instr.index 23 (.agg #[.int .u64 (x 0), .int .u64 (x 1), .int .u64 (x 2), .int .u64 (x 3), .int .u64 (x 4), .int .u64 (x 5)]) (.int .i64 1)).run Try.prog w = .ok (.int .u64 (x 1)) w := by kernel_rfl
theorem argAt_2 (x : Nat → Int) (w : World) : (Instr.index 23 (.agg #[.int .u64 (x 0), .int .u64 (x 1), .int .u64 (x 2), .int .u64 (x 3), .int .u64 (x 4), .int .u64 (x 5)]) (.int .i64 2)).run Try.prog w = .ok (.int .u64 (x 2)) w := by kernel_rfl
theorem argAt_3 (x : Nat → Int) (w : World) : (Instr.index 23 (.agg #[.int .u64 (x 0), .int .u64 (x 1), .int .u64 (x 2), .int .u64 (x 3), .int .u64 (x 4), .int .u64 (x 5)]) (.int .i64 3)).run Try.prog w = .ok (.int .u64 (x 3)) w := by kernel_rfl
theorem argAt_4 (x : Nat → Int) (w : World) : (Instr.index 23 (.agg #[.int .u64 (x 0), .int .u64 (x 1), .int .u64 (x 2), .int .u64 (x 3), .int .u64 (x 4), .int .u64 (x 5)]) (.int .i64 4)).run Try.prog w = .ok (.int .u64 (x 4)) w := by kernel_rfl
theorem argAt_5 (x : Nat → Int) (w : World) : (Instr.index 23 (.agg #[.int .u64 (x 0), .int .u64 (x 1), .int .u64 (x 2), .int .u64 (x 3), .int .u64 (x 4), .int .u64 (x 5)]) (.int .i64 5)).run Try.prog w = .ok (.int .u64 (x 5)) w := by kernel_rfl
theorem words_in (F : Fence) (n : Nat) (hF : WideF F Try.prog) (hro : F.round = none) (op : Int) (x : Nat → Int) (p : Option Addr) (N cap : Nat) (w : World) :
    CallsIn F n Try.prog 16 #[.agg (callA op x), .slice p N cap] w fun e w' => e = .returned (.func (.func 28) #[] #[.pointer (some ⟨w.heap.size, 0, none⟩), .pointer (some ⟨w.heap.size + 1, 0, none⟩)]) ∧
      w' = (w.alloc (.cells (callA op x) 25)).alloc (.cells #[.slice p N cap] 46) := by
  unfold callA
  refine callsIn_of_wp Try.func16 rfl (hF.fn _) ?_ hro
  simp only [Try.ntmps16, List.size_toArray, List.length_cons, List.length_nil, Nat.reduceAdd, Nat.reduceSub, Array.replicate_succ, Array.replicate_zero, List.push_toArray, List.append_toArray, List.nil_append, List.cons_append]
  gi_wp2
  go_ret
  exact ⟨rfl, rfl⟩
/-- Which form goes with the k-th word. -/
def fp (gl n k : Nat) : Value := if k < n then .pointer (some ⟨gl, k * 4, none⟩) else .pointer none
theorem fp_in {gl n k : Nat} (h : k < n) : fp gl n k = .pointer (some ⟨gl, k * 4, none⟩) := if_pos h
theorem fp_out {gl n k : Nat} (h : ¬ k < n) : fp gl n k = .pointer none := if_neg h
set_option maxRecDepth 100000 in
set_option maxHeartbeats 4000000 in
theorem words_iter (F : Fence) (n : Nat) (hF : WideF F Try.prog) (hro : F.round = none) (hn : 1 ≤ n) (op : Int) (x : Nat → Int) (p : Option Addr) (gl cap N Bc Bs : Nat) (w : World) (hv : N = 0 ∨ p = some ⟨gl, 0, none⟩) (hN : N ≤ 6)
    (bc : Blk w Bc 25 (callA op x)) (bs : Blk w Bs 46 #[.slice p N cap]) :
    Iter F n Try.prog 28 #[.pointer (some ⟨Bc, 0, none⟩), .pointer (some ⟨Bs, 0, none⟩)] (fun k : Nat => #[.int .u64 (x k), fp gl N k])
      (fun pre k _ => k = pre.length ∧ k < 6) (fun _ _ => KeepB fun k => k = Bc ∨ k = Bs) (fun xs _ => xs.length = 6) w := by
  intro l J Jx W hsk hl hJ hJx hY h0
  replace bc := hsk.blk bc
  replace bs := hsk.blk bs
  have s0 := bs.cell 0
  have c1 := bc.cell 1
  have c2 := bc.cell 2
  have c3 := bc.cell 3
  have c4 := bc.cell 4
  have c5 := bc.cell 5
  have c6 := bc.cell 6
  simp only [callA] at c1 c2 c3 c4 c5 c6
  refine callsIn_of_wp Try.func28 rfl (hF.fn _) ?_ hro
  simp only [Try.ntmps28, List.size_toArray, List.length_cons, List.length_nil, Nat.reduceAdd, Nat.reduceSub, Array.replicate_succ, Array.replicate_zero, List.push_toArray, List.append_toArray, List.nil_append, List.cons_append]
  have HF := hide hF
  have HY := hide hY
  clear hF hY hJ hJx
  gi_wp2
  gi_loopw [9] (fun i wr => ∃ (k : Nat) (ys : List Nat), k ≤ 6 ∧ i = .int .i64 k ∧ ys.length = k ∧ J ys wr ∧ Blk wr Bc 25 (callA op x) ∧ Blk wr Bs 46 #[.slice p N cap]) (fun i _ => 6 - (intOf i).toNat)
  case atStart => exact ⟨0, [], Nat.zero_le _, rfl, rfl, h0, bc, bs⟩
  case round =>
    obtain ⟨k, ys, hk1, rfl, hlen, hj, bc', bs'⟩ := hrel
    have d0 := bs'.cell 0
    have HL := hide hlen
    clear hlen s0 c1 c2 c3 c4 c5 c6
    by_cases hlt : k < 6
    · have hcs : k = 0 ∨ k = 1 ∨ k = 2 ∨ k = 3 ∨ k = 4 ∨ k = 5 := by omega
      by_cases hkN : k < N
      · obtain rfl : p = some ⟨gl, 0, none⟩ := hv.resolve_left (by omega)
        rcases hcs with rfl | rfl | rfl | rfl | rfl | rfl
        all_goals
          have hY' := HY.out ys _ wr hj ⟨HL.out.symm, hlt⟩
          rw [fp_in hkN] at hY'
          simp only [Nat.reduceMul] at hY'
          obtain ⟨fn, tmps, assign, body, hy, hR⟩ := hY'
          have x0 := argAt_0 x
          have x1 := argAt_1 x
          have x2 := argAt_2 x
          have x3 := argAt_3 x
          have x4 := argAt_4 x
          have x5 := argAt_5 x
          gi_wp2
          refine hR.mono ?_
          rintro e W3 (⟨rfl, hJ3, hk3⟩ | ⟨rfl, hJx3⟩)
          · gi_wp2
            go_roundw
            case rel => exact ⟨_, ys ++ [_], hlt, by go_num, by rw [List.length_append, HL.out]; rfl, hJ3, hk3.blk bc' (.inl rfl), hk3.blk bs' (.inr rfl)⟩
            case measure => simp [intOf]
          · gi_wp2
            refine bodyPost_ret (results_none rfl _ _ _) rfl ?_
            exact ⟨⟨_, rfl⟩, .inr ⟨_, hJx3⟩⟩
      · rcases hcs with rfl | rfl | rfl | rfl | rfl | rfl
        all_goals
          have hY' := HY.out ys _ wr hj ⟨HL.out.symm, hlt⟩
          rw [fp_out hkN] at hY'
          obtain ⟨fn, tmps, assign, body, hy, hR⟩ := hY'
          have x0 := argAt_0 x
          have x1 := argAt_1 x
          have x2 := argAt_2 x
          have x3 := argAt_3 x
          have x4 := argAt_4 x
          have x5 := argAt_5 x
          gi_wp2
          refine hR.mono ?_
          rintro e W3 (⟨rfl, hJ3, hk3⟩ | ⟨rfl, hJx3⟩)
          · gi_wp2
            go_roundw
            case rel => exact ⟨_, ys ++ [_], hlt, by go_num, by rw [List.length_append, HL.out]; rfl, hJ3, hk3.blk bc' (.inl rfl), hk3.blk bs' (.inr rfl)⟩
            case measure => simp [intOf]
          · gi_wp2
            refine bodyPost_ret (results_none rfl _ _ _) rfl ?_
            exact ⟨⟨_, rfl⟩, .inr ⟨_, hJx3⟩⟩
    · gi_wp2
      go_end0
      exact ⟨⟨_, rfl⟩, .inl ⟨ys, by have := HL.out; omega, hj⟩⟩
end Go.Proofs.Ytofmcaagnhdecaa
