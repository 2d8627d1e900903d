/- The walks of the statements of chapter 10: each returns true. -/
import Derived.Test.YtpapabkafkgagaaDoorRof
namespace Go.Proofs.YtpapabkafkgagaaDoor
open Go.RowKit
set_option maxHeartbeats 1000000 in
theorem awake10 (w : World) (hN : NamesAt w) : Calls Tryd.prog 12 #[] w fun e w' => e = .returned (.bool true) ∧ w = w' := by
  have HN := hide hN
  clear hN
  go_enter Tryd.func12, Tryd.ntmps12
  go_wp2_with fail
  refine (of_6 _ HN.out).mono ?_
  rintro e w' ⟨rfl, rfl⟩
  go_wp2_with fail
  refine (frames_2_4 _).mono ?_
  rintro e w' ⟨rfl, rfl⟩
  go_wp2_with fail
  refine (slots_2_4 _).mono ?_
  rintro e w' ⟨rfl, rfl⟩
  go_wp2_with fail
  refine (name_9 _ HN.out).mono ?_
  rintro e w' ⟨rfl, rfl⟩
  go_wp2_with fail
  go_ret
  exact ⟨rfl, rfl⟩
theorem self_beq (s : ByteArray) : (s.toList == s.toList) = true := by simp
set_option maxHeartbeats 1000000 in
theorem tells10 (k s : Int) (nm : ByteArray) (w : World) (hN : NamesAt w) (h1 : Calls Tryd.prog 10 #[.int .i64 k] w fun e w' => e = .returned (.string nm) ∧ w = w')
    (h2 : Calls Tryd.prog 11 #[.int .i64 k] w fun e w' => e = .returned (.string nm) ∧ w = w') :
    Calls Tryd.prog 3 #[.int .i64 k, .int .i64 s] w fun e w' => e = .returned (.bool true) ∧ w = w' := by
  have HN := hide hN
  have H1 := hide h1
  have H2 := hide h2
  clear hN h1 h2
  go_enter Tryd.func3, Tryd.ntmps3
  go_wp2_with fail
  refine (frames_any _ _ _).mono ?_
  rintro e w' ⟨rfl, rfl⟩
  go_wp2_with fail
  refine (rframes_any _ _ _).mono ?_
  rintro e w' ⟨rfl, rfl⟩
  go_wp2_with fail
  refine (slots_any _ _ _).mono ?_
  rintro e w' ⟨rfl, rfl⟩
  go_wp2_with fail
  refine (rslots_any _ _ _).mono ?_
  rintro e w' ⟨rfl, rfl⟩
  go_wp2_with fail
  refine H1.out.mono ?_
  rintro e w' ⟨rfl, rfl⟩
  go_wp2_with fail
  refine H2.out.mono ?_
  rintro e w' ⟨rfl, rfl⟩
  have hs := self_beq nm
  go_wp2_with fail
  refine (awake10 _ HN.out).mono ?_
  rintro e w' ⟨rfl, rfl⟩
  go_wp2_with fail
  go_ret
  exact ⟨rfl, rfl⟩
theorem law_KindsTells (k s : Int) (w : World) (hN : NamesAt w) : Calls Tryd.prog 3 #[.int .i64 k, .int .i64 s] w fun e w' => e = .returned (.bool true) ∧ w = w' := by
  by_cases hl : k < 0
  · exact tells10 k s _ w hN (name_lo k w hl) (rname_lo k w hl)
  by_cases hh : 10 ≤ k
  · exact tells10 k s _ w hN (name_hi k w hh) (rname_hi k w hh)
  obtain rfl | rfl | rfl | rfl | rfl | rfl | rfl | rfl | rfl | rfl : k = 0 ∨ k = 1 ∨ k = 2 ∨ k = 3 ∨ k = 4 ∨ k = 5 ∨ k = 6 ∨ k = 7 ∨ k = 8 ∨ k = 9 := by omega
  · exact tells10 0 s _ w hN (name_0 w hN) (rname_0 w)
  · exact tells10 1 s _ w hN (name_1 w hN) (rname_1 w)
  · exact tells10 2 s _ w hN (name_2 w hN) (rname_2 w)
  · exact tells10 3 s _ w hN (name_3 w hN) (rname_3 w)
  · exact tells10 4 s _ w hN (name_4 w hN) (rname_4 w)
  · exact tells10 5 s _ w hN (name_5 w hN) (rname_5 w)
  · exact tells10 6 s _ w hN (name_6 w hN) (rname_6 w)
  · exact tells10 7 s _ w hN (name_7 w hN) (rname_7 w)
  · exact tells10 8 s _ w hN (name_8 w hN) (rname_8 w)
  · exact tells10 9 s _ w hN (name_9 w hN) (rname_9 w)
set_option maxHeartbeats 1000000 in
theorem names10_big (s : ByteArray) (w : World) (hN : NamesAt w) (hb : (100 : Int) < s.size) : Calls Tryd.prog 4 #[.string s] w fun e w' => e = .returned (.bool true) ∧ w = w' := by
  have HN := hide hN
  clear hN
  go_enter Tryd.func4, Tryd.ntmps4
  go_wp2_with fail
  refine (awake10 _ HN.out).mono ?_
  rintro e w' ⟨rfl, rfl⟩
  go_wp2_with fail
  go_ret
  exact ⟨rfl, rfl⟩
set_option maxHeartbeats 1000000 in
theorem names10 (s : ByteArray) (k : Int) (b : Bool) (w : World) (hN : NamesAt w) (hb : (s.size : Int) ≤ 100) (h1 : Calls Tryd.prog 13 #[.string s] w fun e w' => e = .returned (.tuple #[.int .i64 k, .bool b]) ∧ w = w')
    (h2 : Calls Tryd.prog 14 #[.string s] w fun e w' => e = .returned (.tuple #[.int .i64 k, .bool b]) ∧ w = w') :
    Calls Tryd.prog 4 #[.string s] w fun e w' => e = .returned (.bool true) ∧ w = w' := by
  have HN := hide hN
  have H1 := hide h1
  have H2 := hide h2
  clear hN h1 h2
  go_enter Tryd.func4, Tryd.ntmps4
  go_wp2_with fail
  refine H1.out.mono ?_
  rintro e w' ⟨rfl, rfl⟩
  go_wp2_with fail
  refine H2.out.mono ?_
  rintro e w' ⟨rfl, rfl⟩
  go_wp2_with fail
  refine (awake10 _ HN.out).mono ?_
  rintro e w' ⟨rfl, rfl⟩
  go_wp2_with fail
  go_ret
  exact ⟨rfl, rfl⟩
theorem law_KindsNames (s : ByteArray) (w : World) (hN : NamesAt w) : Calls Tryd.prog 4 #[.string s] w fun e w' => e = .returned (.bool true) ∧ w = w' := by
  by_cases hb : (100 : Int) < s.size
  · exact names10_big s w hN hb
  have hb' : (s.size : Int) ≤ 100 := by omega
  obtain h | ⟨t, ht, rfl⟩ := name_dec s
  · exact names10 s 0 false w hN hb' (of_none s w hN h) (rof_none s w h)
  · simp only [namesL, List.mem_cons, List.not_mem_nil, or_false] at ht
    obtain rfl | rfl | rfl | rfl | rfl | rfl | rfl | rfl | rfl | rfl := ht
    · exact names10 _ 0 true w hN hb' (of_0 w hN) (rof_0 w)
    · exact names10 _ 1 true w hN hb' (of_1 w hN) (rof_1 w)
    · exact names10 _ 2 true w hN hb' (of_2 w hN) (rof_2 w)
    · exact names10 _ 3 true w hN hb' (of_3 w hN) (rof_3 w)
    · exact names10 _ 4 true w hN hb' (of_4 w hN) (rof_4 w)
    · exact names10 _ 5 true w hN hb' (of_5 w hN) (rof_5 w)
    · exact names10 _ 6 true w hN hb' (of_6 w hN) (rof_6 w)
    · exact names10 _ 7 true w hN hb' (of_7 w hN) (rof_7 w)
    · exact names10 _ 8 true w hN hb' (of_8 w hN) (rof_8 w)
    · exact names10 _ 9 true w hN hb' (of_9 w hN) (rof_9 w)
set_option maxHeartbeats 1000000 in
theorem room_lo (s : Int) (w : World) (hN : NamesAt w) (h : s < 1) : Calls Tryd.prog 5 #[.int .i64 s] w fun e w' => e = .returned (.bool true) ∧ w = w' := by
  have HN := hide hN
  clear hN
  go_enter Tryd.func5, Tryd.ntmps5
  go_wp2_with fail
  refine (slots_2_lo s _ h).mono ?_
  rintro e w' ⟨rfl, rfl⟩
  go_wp2_with fail
  refine (frames_2_lo s _ h).mono ?_
  rintro e w' ⟨rfl, rfl⟩
  go_wp2_with fail
  refine (awake10 _ HN.out).mono ?_
  rintro e w' ⟨rfl, rfl⟩
  go_wp2_with fail
  go_ret
  exact ⟨rfl, rfl⟩
set_option maxHeartbeats 1000000 in
theorem room_hi (s : Int) (w : World) (hN : NamesAt w) (h : 4 < s) : Calls Tryd.prog 5 #[.int .i64 s] w fun e w' => e = .returned (.bool true) ∧ w = w' := by
  have HN := hide hN
  clear hN
  go_enter Tryd.func5, Tryd.ntmps5
  go_wp2_with fail
  refine (slots_2_hi s _ h).mono ?_
  rintro e w' ⟨rfl, rfl⟩
  go_wp2_with fail
  refine (frames_2_hi s _ h).mono ?_
  rintro e w' ⟨rfl, rfl⟩
  go_wp2_with fail
  refine (awake10 _ HN.out).mono ?_
  rintro e w' ⟨rfl, rfl⟩
  go_wp2_with fail
  go_ret
  exact ⟨rfl, rfl⟩
set_option maxHeartbeats 1000000 in
theorem room_1 (w : World) (hN : NamesAt w) : Calls Tryd.prog 5 #[.int .i64 1] w fun e w' => e = .returned (.bool true) ∧ w = w' := by
  have HN := hide hN
  clear hN
  go_enter Tryd.func5, Tryd.ntmps5
  go_wp2_with fail
  refine (slots_2_1 _).mono ?_
  rintro e w' ⟨rfl, rfl⟩
  go_wp2_with fail
  refine (frames_2_1 _).mono ?_
  rintro e w' ⟨rfl, rfl⟩
  go_wp2_with fail
  refine (frames_2_2 _).mono ?_
  rintro e w' ⟨rfl, rfl⟩
  go_wp2_with fail
  refine (awake10 _ HN.out).mono ?_
  rintro e w' ⟨rfl, rfl⟩
  go_wp2_with fail
  go_ret
  exact ⟨rfl, rfl⟩
set_option maxHeartbeats 1000000 in
theorem room_2 (w : World) (hN : NamesAt w) : Calls Tryd.prog 5 #[.int .i64 2] w fun e w' => e = .returned (.bool true) ∧ w = w' := by
  have HN := hide hN
  clear hN
  go_enter Tryd.func5, Tryd.ntmps5
  go_wp2_with fail
  refine (slots_2_2 _).mono ?_
  rintro e w' ⟨rfl, rfl⟩
  go_wp2_with fail
  refine (frames_2_2 _).mono ?_
  rintro e w' ⟨rfl, rfl⟩
  go_wp2_with fail
  refine (frames_2_3 _).mono ?_
  rintro e w' ⟨rfl, rfl⟩
  go_wp2_with fail
  refine (awake10 _ HN.out).mono ?_
  rintro e w' ⟨rfl, rfl⟩
  go_wp2_with fail
  go_ret
  exact ⟨rfl, rfl⟩
set_option maxHeartbeats 1000000 in
theorem room_3 (w : World) (hN : NamesAt w) : Calls Tryd.prog 5 #[.int .i64 3] w fun e w' => e = .returned (.bool true) ∧ w = w' := by
  have HN := hide hN
  clear hN
  go_enter Tryd.func5, Tryd.ntmps5
  go_wp2_with fail
  refine (slots_2_3 _).mono ?_
  rintro e w' ⟨rfl, rfl⟩
  go_wp2_with fail
  refine (frames_2_3 _).mono ?_
  rintro e w' ⟨rfl, rfl⟩
  go_wp2_with fail
  refine (frames_2_4 _).mono ?_
  rintro e w' ⟨rfl, rfl⟩
  go_wp2_with fail
  refine (awake10 _ HN.out).mono ?_
  rintro e w' ⟨rfl, rfl⟩
  go_wp2_with fail
  go_ret
  exact ⟨rfl, rfl⟩
set_option maxHeartbeats 1000000 in
theorem room_4 (w : World) (hN : NamesAt w) : Calls Tryd.prog 5 #[.int .i64 4] w fun e w' => e = .returned (.bool true) ∧ w = w' := by
  have HN := hide hN
  clear hN
  go_enter Tryd.func5, Tryd.ntmps5
  go_wp2_with fail
  refine (slots_2_4 _).mono ?_
  rintro e w' ⟨rfl, rfl⟩
  go_wp2_with fail
  refine (frames_2_4 _).mono ?_
  rintro e w' ⟨rfl, rfl⟩
  go_wp2_with fail
  refine (awake10 _ HN.out).mono ?_
  rintro e w' ⟨rfl, rfl⟩
  go_wp2_with fail
  go_ret
  exact ⟨rfl, rfl⟩
theorem law_KindsRoom (s : Int) (w : World) (hN : NamesAt w) : Calls Tryd.prog 5 #[.int .i64 s] w fun e w' => e = .returned (.bool true) ∧ w = w' := by
  by_cases hl : s < 1
  · exact room_lo s w hN hl
  by_cases hh : 4 < s
  · exact room_hi s w hN hh
  obtain rfl | rfl | rfl | rfl : s = 1 ∨ s = 2 ∨ s = 3 ∨ s = 4 := by omega
  · exact room_1 w hN
  · exact room_2 w hN
  · exact room_3 w hN
  · exact room_4 w hN
end Go.Proofs.YtpapabkafkgagaaDoor
