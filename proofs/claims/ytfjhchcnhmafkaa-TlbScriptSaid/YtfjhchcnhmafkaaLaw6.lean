/- The walks of the statements of chapter 6: awake, and TlbNone. -/
import Derived.Test.YtfjhchcnhmafkaaTlb8
namespace Go.Proofs.Ytfjhchcnhmafkaa
open Go.RowKit Go.Shelf
theorem empty_ok : Cache.empty.ok := fun _ _ => .inl rfl
def x142 : Tr := ⟨1, 4, 2, true, false⟩
theorem aw_fill : fillE x142 = 0 := by decide
theorem aw_tr : findTr (fillC Cache.empty x142) 1 4 = x142 := by decide
theorem aw_ok : findOk (fillC Cache.empty x142) 1 4 = true := by decide
theorem aw_e1 : evictB (fillC Cache.empty x142) 0 0 = true := by decide
theorem aw_e2 : evictB (evictC (fillC Cache.empty x142) 0 0) 0 0 = false := by decide
set_option maxHeartbeats 4000000 in
theorem awake6 (w : World) : Calls Try.prog 18 #[] w fun e w' => e = .returned (.bool true) ∧ Below w.heap.size w w' := by
  go_enter Try.func18, Try.ntmps18
  go_wp2_with fail
  refine (tnew_any _).mono ?_
  rintro e w1 ⟨rfl, hT, hb⟩
  have HT := hide hT
  have HB := hide hb
  have hl := hT.lt
  clear hT hb
  go_wp2_with fail
  have hT2 := HT.out.below ((Below.refl _ w1).alloc (Nat.le_refl _) (.cells x142.row 28)) hl
  have hX2 := Blk.new w1 28 x142.row
  have hB2 := HB.out.alloc HB.out.size (.cells x142.row 28)
  refine (fill_any _ _ x142 _ hT2 empty_ok).mono ?_
  rintro e w2 ⟨rfl, hT3, hm⟩
  have hB3 := below_mod hB2 (Nat.le_refl _) hm (fun k hk => by omega)
  have hX3 := hX2.mod hm (by omega)
  have HT3 := hide hT3
  have HB3 := hide hB3
  have HX3 := hide hX3
  rw [aw_fill]
  clear HT HB hT2 hX2 hB2 hm hT3 hB3 hX3
  go_wp2_with fail
  refine (find_in _ _ _ _ _ HT3.out).mono ?_
  rintro e w3 ⟨rfl, hb⟩
  rw [aw_tr, aw_ok]
  have hT4 := HT3.out.below hb HT3.out.lt
  have hX4 := HX3.out.below hb HX3.out.lt
  have hB4 := HB3.out.trans (hb.mono HB3.out.size)
  have HT4 := hide hT4
  have HX4 := hide hX4
  have HB4 := hide hB4
  have hl4 := hX4.lt
  clear HT3 HB3 HX3 hb hT4 hX4 hB4
  obtain ⟨c0, c1, c2, c3, c4⟩ := (show Blk w3 w1.heap.size 28 #[.int .i64 1, .int .i64 4, .int .i64 2, .bool true, .bool false] from HX4.out).c5
  rw [show x142.row = #[.int .i64 1, .int .i64 4, .int .i64 2, .bool true, .bool false] from rfl]
  go_wp2_with fail
  have hT5 := HT4.out.below ((Below.refl w3.heap.size w3).alloc (Nat.le_refl _) (.cells #[.int .i64 1, .int .i64 4, .int .i64 2, .bool true, .bool false] 28)) HT4.out.lt
  have hB5 := HB4.out.alloc HB4.out.size (.cells #[.int .i64 1, .int .i64 4, .int .i64 2, .bool true, .bool false] 28)
  refine (evict_any _ 0 0 _ _ hT5).mono ?_
  rintro e w4 ⟨rfl, hT6, hm⟩
  rw [aw_e1]
  have HT6 := hide hT6
  have HB6 := hide (below_mod hB5 (Nat.le_refl _) hm (fun k hk => by omega))
  clear HT4 HB4 HX4 hT5 hB5 hT6 hm
  go_wp2_with fail
  refine (evict_any _ 0 0 _ _ HT6.out).mono ?_
  rintro e w5 ⟨rfl, hT7, hm⟩
  rw [aw_e2]
  have HB7 := hide (below_mod HB6.out (Nat.le_refl _) hm (fun k hk => by omega))
  clear HT6 HB6 hT7 hm
  go_wp2_with fail
  go_ret
  exact ⟨rfl, HB7.out⟩
set_option maxHeartbeats 4000000 in
theorem law_TlbNone (a b c : Int) (d e : Bool) (s k : Int) (_ : (Lit.int .i64 a).wf = true) (_ : (Lit.int .i64 b).wf = true) (_ : (Lit.int .i64 c).wf = true) (_ : (Lit.int .i64 s).wf = true) (_ : (Lit.int .i64 k).wf = true) (w : World) : Calls Try.prog 10 #[.agg #[.int .i64 a, .int .i64 b, .int .i64 c, .bool d, .bool e], .int .i64 s, .int .i64 k] w fun e w' => e = .returned (.bool true) ∧ Below w.heap.size w w' := by
  go_enter Try.func10, Try.ntmps10
  go_wp2_with fail
  have hX := Blk.new w 28 #[.int .i64 a, .int .i64 b, .int .i64 c, .bool d, .bool e]
  have hB := (Below.refl w.heap.size w).alloc (Nat.le_refl _) (.cells #[.int .i64 a, .int .i64 b, .int .i64 c, .bool d, .bool e] 28)
  refine (find_none _ _ _).mono ?_
  rintro e1 w1 ⟨rfl, hb⟩
  have HX := hide (hX.below hb hX.lt)
  have HB := hide (hB.trans (hb.mono hB.size))
  have hl := HX.out.lt
  clear hX hB hb
  obtain ⟨c0, c1, c2, c3, c4⟩ := HX.out.c5
  rw [show Tr.zero.row = #[.int .i64 0, .int .i64 0, .int .i64 0, .bool false, .bool false] from rfl]
  go_wp2_with fail
  have hB := HB.out.alloc HB.out.size (.cells #[.int .i64 0, .int .i64 0, .int .i64 0, .bool false, .bool false] 28)
  refine (fill_nil ⟨a, b, c, d, e⟩ _).mono ?_
  rintro e1 w2 ⟨rfl, hb⟩
  have HB2 := hide (hB.trans (hb.mono hB.size))
  clear HB hB hb c0 c1 c2 c3 c4
  go_wp2_with fail
  refine (evict_nil _ _ _).mono ?_
  rintro e1 w2' ⟨rfl, rfl⟩
  go_wp2_with fail
  refine (dropPage_nil _ _ _).mono ?_
  rintro e1 w3 ⟨rfl, hb⟩
  have HB3 := hide (HB2.out.trans (hb.mono HB2.out.size))
  clear HB2 hb
  go_wp2_with fail
  refine (dropSpace_nil _ _).mono ?_
  rintro e1 w4 ⟨rfl, hb⟩
  have HB4 := hide (HB3.out.trans (hb.mono HB3.out.size))
  clear HB3 hb
  go_wp2_with fail
  refine (dropAll_nil _).mono ?_
  rintro e1 w5 ⟨rfl, hb⟩
  have HB5 := hide (HB4.out.trans (hb.mono HB4.out.size))
  clear HB4 hb
  go_wp2_with fail
  refine (all_none _).mono ?_
  rintro e1 w6 ⟨rfl, hb⟩
  have HB6 := hide (HB5.out.trans (hb.mono HB5.out.size))
  clear HB5 hb
  go_wp2_with fail
  refine (awake6 _).mono ?_
  rintro e1 w7 ⟨rfl, hb⟩
  have HB7 := hide (HB6.out.trans (hb.mono HB6.out.size))
  clear HB6 hb
  go_wp2_with fail
  go_ret
  exact ⟨rfl, HB7.out⟩
end Go.Proofs.Ytfjhchcnhmafkaa
