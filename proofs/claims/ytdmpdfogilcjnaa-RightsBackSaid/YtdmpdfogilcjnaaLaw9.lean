/- The walks of the statements of chapter 9: each returns true. -/
import Derived.Test.YtdmpdfogilcjnaaRef9
import Derived.Test.YtdmpdfogilcjnaaLaw0
import Derived.Laws.BitsLemmas
namespace Go.Proofs.Ytdmpdfogilcjnaa
open Go.RowKit

set_option maxHeartbeats 1000000 in
theorem parse_len (s : ByteArray) (w : World) (hz : ((s.size : Int) != 3) = true) : Calls Try.prog 22 #[.string s] w fun e w' => e = .returned (.tuple #[.int .i64 0, .int .i64 5]) ∧ w = w' := by
  go_enter Try.func22, Try.ntmps22
  go_wp2
  go_step3
  go_wp2
  rw [Exit.noGoto_ret]
  go_ret2
  exact ⟨rfl, rfl⟩
def goodS (s : ByteArray) (h : s.size = 3) : Prop :=
  ((s[0]'(by omega)).toNat = 114 ∨ (s[0]'(by omega)).toNat = 45) ∧ ((s[1]'(by omega)).toNat = 119 ∨ (s[1]'(by omega)).toNat = 45) ∧ ((s[2]'(by omega)).toNat = 103 ∨ (s[2]'(by omega)).toNat = 45)
theorem of_beqn {a b : Nat} (h : ((a : Int) == (b : Int)) = true) : a = b := by
  have := eq_of_beq h
  omega
set_option maxHeartbeats 1000000 in
theorem parse_bad (s : ByteArray) (w : World) (h3 : s.size = 3) (hn : ¬ goodS s h3) : Calls Try.prog 22 #[.string s] w fun e w' => e = .returned (.tuple #[.int .i64 0, .int .i64 5]) ∧ w = w' := by
  have hl0 := lb0
  have hl1 := lb1
  have hl2 := lb2
  have h3' : ((s.size : Int) != 3) = false := by simp [h3]
  have HN := hide hn
  clear hn
  go_enter Try.func22, Try.ntmps22
  go_wp2
  go_step3
  go_wp2
  go_step3
  go_wp2
  refine wp_loop_rounds 4 ?_
  rw [rounds_succ]
  go_wp2
  any_goals (rw [rounds_succ]; go_wp2)
  any_goals (rw [rounds_succ]; go_wp2)
  any_goals (rw [rounds_succ]; go_wp2)
  all_goals (rw [Exit.noGoto_ret]; go_ret2)
  all_goals first
    | exact ⟨rfl, rfl⟩
    | (exfalso
       refine HN.out ⟨?_, ?_, ?_⟩
       · first
           | exact .inl (of_beqn (b := 114) (by assumption))
           | exact .inr (of_beqn (b := 45) (by assumption))
       · first
           | exact .inl (of_beqn (b := 119) (by assumption))
           | exact .inr (of_beqn (b := 45) (by assumption))
       · first
           | exact .inl (of_beqn (b := 103) (by assumption))
           | exact .inr (of_beqn (b := 45) (by assumption)))

theorem bytes3 (s : ByteArray) (h : s.size = 3) : s = ⟨#[s[0]'(by omega), s[1]'(by omega), s[2]'(by omega)]⟩ := by
  obtain ⟨d⟩ := s
  have hd : d.size = 3 := h
  congr 1
  apply Array.ext
  · simp [hd]
  · intro i h1 h2
    have : i < 3 := by omega
    match i, this with
    | 0, _ => rfl
    | 1, _ => rfl
    | 2, _ => rfl
def isText (s : ByteArray) : Prop := s = ⟨#[45, 45, 45]⟩ ∨ s = ⟨#[114, 45, 45]⟩ ∨ s = ⟨#[45, 119, 45]⟩ ∨ s = ⟨#[114, 119, 45]⟩ ∨ s = ⟨#[45, 45, 103]⟩ ∨ s = ⟨#[114, 45, 103]⟩ ∨ s = ⟨#[45, 119, 103]⟩ ∨ s = ⟨#[114, 119, 103]⟩
theorem good_text (s : ByteArray) (h : s.size = 3) (hg : goodS s h) : isText s := by
  have e := bytes3 s h
  have u : ∀ (x : UInt8) (n : Nat), n < 256 → x.toNat = n → x = UInt8.ofNat n := fun x n hn hx => by
    subst hx; simp
  obtain ⟨h0, h1, h2⟩ := hg
  generalize s[0]'(by omega) = a at e h0
  generalize s[1]'(by omega) = b at e h1
  generalize s[2]'(by omega) = c at e h2
  subst e
  unfold isText
  rcases h0 with h0 | h0 <;> rcases h1 with h1 | h1 <;> rcases h2 with h2 | h2
  all_goals
    have a1 := u a _ (by omega) h0
    have b1 := u b _ (by omega) h1
    have c1 := u c _ (by omega) h2
    subst a1 b1 c1
    decide
theorem no_text (s : ByteArray) (hn : ¬ isText s) : noText s := by
  intro t ht
  cases hb : (t == s.toList) with
  | false => rfl
  | true =>
    exfalso
    have e := eq_of_beq hb
    rw [ByteArray.toList_eq] at e
    apply hn
    obtain ⟨⟨l⟩⟩ := s
    simp only at e
    subst e
    unfold isText
    simp at ht
    rcases ht with rfl | rfl | rfl | rfl | rfl | rfl | rfl | rfl <;> decide
theorem parse_none (s : ByteArray) (hn : ¬ isText s) (w : World) : Calls Try.prog 22 #[.string s] w fun e w' => e = .returned (.tuple #[.int .i64 0, .int .i64 5]) ∧ w = w' := by
  by_cases h : s.size = 3
  · exact parse_bad s w h (fun hg => hn (good_text s h hg))
  · exact parse_len s w (by rw [bne_iff_ne]; omega)
theorem awake9 (w : World) : Calls Try.prog 21 #[] w fun e w' => e = .returned (.bool true) ∧ Below w.heap.size w w' := by
  have e1 : bits .and .i64 7 3 = 3 := by decide +kernel
  have e2 : (bits .and .i64 3 1 == 1) = true := by decide +kernel
  have e3 : ([114, 45, 103] == ByteArray.toList (⟨#[114, 45, 103]⟩ : ByteArray)) = true := by decide +kernel
  go_enter Try.func21, Try.ntmps21
  go_wp2_with fail
  refine (parse_2 _).mono ?_
  rintro e w' ⟨rfl, rfl⟩
  go_wp2_with fail
  refine (mask_yes 7 3 _ (by omega) (by omega)).mono ?_
  rintro e w' ⟨rfl, rfl⟩
  rw [e1]
  go_wp2_with fail
  refine (has_yes 3 1 _ (by omega) (by omega)).mono ?_
  rintro e w' ⟨rfl, rfl⟩
  rw [e2]
  go_wp2_with fail
  refine (text_5 _).mono ?_
  rintro e w' ⟨rfl, hb⟩
  go_wp2_with fail
  go_ret
  exact ⟨rfl, hb⟩

theorem and7 (a : Int) : 0 ≤ bits .and .i64 a 7 ∧ bits .and .i64 a 7 ≤ 7 := by
  have h : (BitVec.ofInt 64 a &&& BitVec.ofInt 64 7).toNat ≤ 7 := by
    rw [BitVec.toNat_and]
    exact Nat.and_le_right
  have e : bits .and .i64 a 7 = IntKind.i64.wrap ((BitVec.ofInt 64 a &&& BitVec.ofInt 64 7).toNat : Int) := rfl
  rw [e, IntWalk.i64_in _ (by omega)]
  omega
theorem and_fin : ∀ x y : Fin 8, (0 ≤ bits .and .i64 (x.val : Int) (y.val : Int) ∧ bits .and .i64 (x.val : Int) (y.val : Int) ≤ 7) ∧
    bits .and .i64 (x.val : Int) (bits .and .i64 (x.val : Int) (y.val : Int)) = bits .and .i64 (x.val : Int) (y.val : Int) ∧
    bits .and .i64 (y.val : Int) (bits .and .i64 (x.val : Int) (y.val : Int)) = bits .and .i64 (x.val : Int) (y.val : Int) ∧
    bits .and .i64 (bits .and .i64 (x.val : Int) (y.val : Int)) (y.val : Int) = bits .and .i64 (x.val : Int) (y.val : Int) ∧
    bits .and .i64 (y.val : Int) (x.val : Int) = bits .and .i64 (x.val : Int) (y.val : Int) := by decide +kernel
theorem and_facts {a b : Int} (ha : 0 ≤ a ∧ a ≤ 7) (hb : 0 ≤ b ∧ b ≤ 7) : ∃ m, bits .and .i64 a b = m ∧ (0 ≤ m ∧ m ≤ 7) ∧ bits .and .i64 a m = m ∧ bits .and .i64 b m = m ∧ bits .and .i64 m b = m ∧ bits .and .i64 b a = m := by
  obtain ⟨x, rfl⟩ := Int.eq_ofNat_of_zero_le ha.1
  obtain ⟨y, rfl⟩ := Int.eq_ofNat_of_zero_le hb.1
  obtain ⟨h1, h2, h3, h4, h5⟩ := and_fin ⟨x, by omega⟩ ⟨y, by omega⟩
  exact ⟨_, rfl, h1, h2, h3, h4, h5⟩
set_option maxHeartbeats 1000000 in
theorem law_RightsFall (a b : Int) (_ha : (Lit.int .i64 a).wf = true) (_hb : (Lit.int .i64 b).wf = true) (w : World) :
    Calls Try.prog 5 #[.int .i64 a, .int .i64 b] w fun e w' => e = .returned (.bool true) ∧ Below w.heap.size w w' := by
  have hA := and7 a
  have hB := and7 b
  go_enter Try.func5, Try.ntmps5
  go_wp2_with fail
  generalize bits .and .i64 a 7 = A at hA ⊢
  generalize bits .and .i64 b 7 = B at hB ⊢
  obtain ⟨m, hm, hM, h1, h2, h3, h4⟩ := and_facts hA hB
  have HA := hide hA
  have HB := hide hB
  have HM := hide hM
  have HE := hide hm
  have H1 := hide h1
  have H2 := hide h2
  have H3 := hide h3
  have H4 := hide h4
  clear hA hB hM hm h1 h2 h3 h4
  refine (mask_yes A B _ HA.out HB.out).mono ?_
  rintro e w' ⟨rfl, rfl⟩
  rw [HE.out]
  go_wp2_with fail
  refine (has_yes A m _ HA.out HM.out).mono ?_
  rintro e w' ⟨rfl, rfl⟩
  rw [H1.out, beq_self_eq_true m]
  go_wp2_with fail
  refine (has_yes B m _ HB.out HM.out).mono ?_
  rintro e w' ⟨rfl, rfl⟩
  rw [H2.out, beq_self_eq_true m]
  go_wp2_with fail
  refine (mask_yes m B _ HM.out HB.out).mono ?_
  rintro e w' ⟨rfl, rfl⟩
  rw [H3.out]
  go_wp2_with fail
  refine (mask_yes B A _ HB.out HA.out).mono ?_
  rintro e w' ⟨rfl, rfl⟩
  rw [H4.out]
  go_wp2_with fail
  refine (has_yes A B _ HA.out HB.out).mono ?_
  rintro e w' ⟨rfl, rfl⟩
  rw [HE.out]
  go_wp2_with fail
  refine (awake9 _).mono ?_
  rintro e w3 ⟨rfl, hb3⟩
  go_wp2_with fail
  go_ret
  exact ⟨rfl, hb3⟩
set_option maxHeartbeats 4000000 in
theorem law_RightsBack (a : Int) (_ha : (Lit.int .i64 a).wf = true) (w : World) :
    Calls Try.prog 6 #[.int .i64 a] w fun e w' => e = .returned (.bool true) ∧ Below w.heap.size w w' := by
  by_cases h : 0 ≤ a ∧ a ≤ 7
  · have h8 : a = 0 ∨ a = 1 ∨ a = 2 ∨ a = 3 ∨ a = 4 ∨ a = 5 ∨ a = 6 ∨ a = 7 := by omega
    clear h
    rcases h8 with rfl | rfl | rfl | rfl | rfl | rfl | rfl | rfl
    · go_enter Try.func6, Try.ntmps6
      go_wp2_with fail
      refine (text_0 _).mono ?_
      rintro e w1 ⟨rfl, hb1⟩
      go_wp2_with fail
      refine (parse_0 _).mono ?_
      rintro e w' ⟨rfl, rfl⟩
      go_wp2_with fail
      refine (text_0 _).mono ?_
      rintro e w2 ⟨rfl, hb2⟩
      go_wp2_with fail
      refine (awake9 _).mono ?_
      rintro e w3 ⟨rfl, hb3⟩
      go_wp2_with fail
      go_ret
      exact ⟨rfl, (hb1.trans (hb2.mono hb1.size)).trans (hb3.mono (Nat.le_trans hb1.size hb2.size))⟩
    · go_enter Try.func6, Try.ntmps6
      go_wp2_with fail
      refine (text_1 _).mono ?_
      rintro e w1 ⟨rfl, hb1⟩
      go_wp2_with fail
      refine (parse_1 _).mono ?_
      rintro e w' ⟨rfl, rfl⟩
      go_wp2_with fail
      refine (text_1 _).mono ?_
      rintro e w2 ⟨rfl, hb2⟩
      go_wp2_with fail
      refine (awake9 _).mono ?_
      rintro e w3 ⟨rfl, hb3⟩
      go_wp2_with fail
      go_ret
      exact ⟨rfl, (hb1.trans (hb2.mono hb1.size)).trans (hb3.mono (Nat.le_trans hb1.size hb2.size))⟩
    · go_enter Try.func6, Try.ntmps6
      go_wp2_with fail
      refine (text_2 _).mono ?_
      rintro e w1 ⟨rfl, hb1⟩
      go_wp2_with fail
      refine (parse_2 _).mono ?_
      rintro e w' ⟨rfl, rfl⟩
      go_wp2_with fail
      refine (text_2 _).mono ?_
      rintro e w2 ⟨rfl, hb2⟩
      go_wp2_with fail
      refine (awake9 _).mono ?_
      rintro e w3 ⟨rfl, hb3⟩
      go_wp2_with fail
      go_ret
      exact ⟨rfl, (hb1.trans (hb2.mono hb1.size)).trans (hb3.mono (Nat.le_trans hb1.size hb2.size))⟩
    · go_enter Try.func6, Try.ntmps6
      go_wp2_with fail
      refine (text_3 _).mono ?_
      rintro e w1 ⟨rfl, hb1⟩
      go_wp2_with fail
      refine (parse_3 _).mono ?_
      rintro e w' ⟨rfl, rfl⟩
      go_wp2_with fail
      refine (text_3 _).mono ?_
      rintro e w2 ⟨rfl, hb2⟩
      go_wp2_with fail
      refine (awake9 _).mono ?_
      rintro e w3 ⟨rfl, hb3⟩
      go_wp2_with fail
      go_ret
      exact ⟨rfl, (hb1.trans (hb2.mono hb1.size)).trans (hb3.mono (Nat.le_trans hb1.size hb2.size))⟩
    · go_enter Try.func6, Try.ntmps6
      go_wp2_with fail
      refine (text_4 _).mono ?_
      rintro e w1 ⟨rfl, hb1⟩
      go_wp2_with fail
      refine (parse_4 _).mono ?_
      rintro e w' ⟨rfl, rfl⟩
      go_wp2_with fail
      refine (text_4 _).mono ?_
      rintro e w2 ⟨rfl, hb2⟩
      go_wp2_with fail
      refine (awake9 _).mono ?_
      rintro e w3 ⟨rfl, hb3⟩
      go_wp2_with fail
      go_ret
      exact ⟨rfl, (hb1.trans (hb2.mono hb1.size)).trans (hb3.mono (Nat.le_trans hb1.size hb2.size))⟩
    · go_enter Try.func6, Try.ntmps6
      go_wp2_with fail
      refine (text_5 _).mono ?_
      rintro e w1 ⟨rfl, hb1⟩
      go_wp2_with fail
      refine (parse_5 _).mono ?_
      rintro e w' ⟨rfl, rfl⟩
      go_wp2_with fail
      refine (text_5 _).mono ?_
      rintro e w2 ⟨rfl, hb2⟩
      go_wp2_with fail
      refine (awake9 _).mono ?_
      rintro e w3 ⟨rfl, hb3⟩
      go_wp2_with fail
      go_ret
      exact ⟨rfl, (hb1.trans (hb2.mono hb1.size)).trans (hb3.mono (Nat.le_trans hb1.size hb2.size))⟩
    · go_enter Try.func6, Try.ntmps6
      go_wp2_with fail
      refine (text_6 _).mono ?_
      rintro e w1 ⟨rfl, hb1⟩
      go_wp2_with fail
      refine (parse_6 _).mono ?_
      rintro e w' ⟨rfl, rfl⟩
      go_wp2_with fail
      refine (text_6 _).mono ?_
      rintro e w2 ⟨rfl, hb2⟩
      go_wp2_with fail
      refine (awake9 _).mono ?_
      rintro e w3 ⟨rfl, hb3⟩
      go_wp2_with fail
      go_ret
      exact ⟨rfl, (hb1.trans (hb2.mono hb1.size)).trans (hb3.mono (Nat.le_trans hb1.size hb2.size))⟩
    · go_enter Try.func6, Try.ntmps6
      go_wp2_with fail
      refine (text_7 _).mono ?_
      rintro e w1 ⟨rfl, hb1⟩
      go_wp2_with fail
      refine (parse_7 _).mono ?_
      rintro e w' ⟨rfl, rfl⟩
      go_wp2_with fail
      refine (text_7 _).mono ?_
      rintro e w2 ⟨rfl, hb2⟩
      go_wp2_with fail
      refine (awake9 _).mono ?_
      rintro e w3 ⟨rfl, hb3⟩
      go_wp2_with fail
      go_ret
      exact ⟨rfl, (hb1.trans (hb2.mono hb1.size)).trans (hb3.mono (Nat.le_trans hb1.size hb2.size))⟩
  · have H := hide h
    by_cases h0 : a < 0
    · clear h
      have hn : ¬ isText ⟨#[]⟩ := by unfold isText; decide
      have HN := hide hn
      clear hn
      go_enter Try.func6, Try.ntmps6
      go_wp2_with fail
      refine (text_out _ _ H.out).mono ?_
      rintro e w1 ⟨rfl, hb1⟩
      go_wp2_with fail
      refine (parse_none _ HN.out _).mono ?_
      rintro e w' ⟨rfl, rfl⟩
      go_wp2_with fail
      refine (rmay_no _ _ H.out).mono ?_
      rintro e w' ⟨rfl, rfl⟩
      go_wp2_with fail
      refine (awake9 _).mono ?_
      rintro e w3 ⟨rfl, hb3⟩
      go_wp2_with fail
      go_ret
      exact ⟨rfl, hb1.trans (hb3.mono hb1.size)⟩
    · have h1 : 7 < a := by omega
      clear h
      have hn : ¬ isText ⟨#[]⟩ := by unfold isText; decide
      have HN := hide hn
      clear hn
      go_enter Try.func6, Try.ntmps6
      go_wp2_with fail
      refine (text_out _ _ H.out).mono ?_
      rintro e w1 ⟨rfl, hb1⟩
      go_wp2_with fail
      refine (parse_none _ HN.out _).mono ?_
      rintro e w' ⟨rfl, rfl⟩
      go_wp2_with fail
      refine (rmay_no _ _ H.out).mono ?_
      rintro e w' ⟨rfl, rfl⟩
      go_wp2_with fail
      refine (awake9 _).mono ?_
      rintro e w3 ⟨rfl, hb3⟩
      go_wp2_with fail
      go_ret
      exact ⟨rfl, hb1.trans (hb3.mono hb1.size)⟩

set_option maxHeartbeats 4000000 in
theorem law_RightsReads (s : ByteArray) (_hs : s.size ≤ maxLen) (w : World) :
    Calls Try.prog 4 #[.string s] w fun e w' => e = .returned (.bool true) ∧ Below w.heap.size w w' := by
  by_cases hl : 100 < (s.size : Int)
  · go_enter Try.func4, Try.ntmps4
    go_wp2_with fail
    refine (awake9 _).mono ?_
    rintro e w3 ⟨rfl, hb3⟩
    go_wp2_with fail
    go_ret
    exact ⟨rfl, hb3⟩
  by_cases ht : isText s
  · unfold isText at ht
    clear hl _hs
    rcases ht with rfl | rfl | rfl | rfl | rfl | rfl | rfl | rfl
    · have hl : ((ByteArray.mk #[45, 45, 45]).size : Int) = 3 := rfl
      go_enter Try.func4, Try.ntmps4
      go_wp2_with fail
      refine (parse_0 _).mono ?_
      rintro e w' ⟨rfl, rfl⟩
      go_wp2_with fail
      refine (rparse_0 _).mono ?_
      rintro e w' ⟨rfl, rfl⟩
      go_wp2_with fail
      refine (num_any _ _).mono ?_
      rintro e w' ⟨rfl, rfl⟩
      go_wp2_with fail
      refine (awake9 _).mono ?_
      rintro e w3 ⟨rfl, hb3⟩
      go_wp2_with fail
      go_ret
      exact ⟨rfl, hb3⟩
    · have hl : ((ByteArray.mk #[114, 45, 45]).size : Int) = 3 := rfl
      go_enter Try.func4, Try.ntmps4
      go_wp2_with fail
      refine (parse_1 _).mono ?_
      rintro e w' ⟨rfl, rfl⟩
      go_wp2_with fail
      refine (rparse_1 _).mono ?_
      rintro e w' ⟨rfl, rfl⟩
      go_wp2_with fail
      refine (num_any _ _).mono ?_
      rintro e w' ⟨rfl, rfl⟩
      go_wp2_with fail
      refine (awake9 _).mono ?_
      rintro e w3 ⟨rfl, hb3⟩
      go_wp2_with fail
      go_ret
      exact ⟨rfl, hb3⟩
    · have hl : ((ByteArray.mk #[45, 119, 45]).size : Int) = 3 := rfl
      go_enter Try.func4, Try.ntmps4
      go_wp2_with fail
      refine (parse_2 _).mono ?_
      rintro e w' ⟨rfl, rfl⟩
      go_wp2_with fail
      refine (rparse_2 _).mono ?_
      rintro e w' ⟨rfl, rfl⟩
      go_wp2_with fail
      refine (num_any _ _).mono ?_
      rintro e w' ⟨rfl, rfl⟩
      go_wp2_with fail
      refine (awake9 _).mono ?_
      rintro e w3 ⟨rfl, hb3⟩
      go_wp2_with fail
      go_ret
      exact ⟨rfl, hb3⟩
    · have hl : ((ByteArray.mk #[114, 119, 45]).size : Int) = 3 := rfl
      go_enter Try.func4, Try.ntmps4
      go_wp2_with fail
      refine (parse_3 _).mono ?_
      rintro e w' ⟨rfl, rfl⟩
      go_wp2_with fail
      refine (rparse_3 _).mono ?_
      rintro e w' ⟨rfl, rfl⟩
      go_wp2_with fail
      refine (num_any _ _).mono ?_
      rintro e w' ⟨rfl, rfl⟩
      go_wp2_with fail
      refine (awake9 _).mono ?_
      rintro e w3 ⟨rfl, hb3⟩
      go_wp2_with fail
      go_ret
      exact ⟨rfl, hb3⟩
    · have hl : ((ByteArray.mk #[45, 45, 103]).size : Int) = 3 := rfl
      go_enter Try.func4, Try.ntmps4
      go_wp2_with fail
      refine (parse_4 _).mono ?_
      rintro e w' ⟨rfl, rfl⟩
      go_wp2_with fail
      refine (rparse_4 _).mono ?_
      rintro e w' ⟨rfl, rfl⟩
      go_wp2_with fail
      refine (num_any _ _).mono ?_
      rintro e w' ⟨rfl, rfl⟩
      go_wp2_with fail
      refine (awake9 _).mono ?_
      rintro e w3 ⟨rfl, hb3⟩
      go_wp2_with fail
      go_ret
      exact ⟨rfl, hb3⟩
    · have hl : ((ByteArray.mk #[114, 45, 103]).size : Int) = 3 := rfl
      go_enter Try.func4, Try.ntmps4
      go_wp2_with fail
      refine (parse_5 _).mono ?_
      rintro e w' ⟨rfl, rfl⟩
      go_wp2_with fail
      refine (rparse_5 _).mono ?_
      rintro e w' ⟨rfl, rfl⟩
      go_wp2_with fail
      refine (num_any _ _).mono ?_
      rintro e w' ⟨rfl, rfl⟩
      go_wp2_with fail
      refine (awake9 _).mono ?_
      rintro e w3 ⟨rfl, hb3⟩
      go_wp2_with fail
      go_ret
      exact ⟨rfl, hb3⟩
    · have hl : ((ByteArray.mk #[45, 119, 103]).size : Int) = 3 := rfl
      go_enter Try.func4, Try.ntmps4
      go_wp2_with fail
      refine (parse_6 _).mono ?_
      rintro e w' ⟨rfl, rfl⟩
      go_wp2_with fail
      refine (rparse_6 _).mono ?_
      rintro e w' ⟨rfl, rfl⟩
      go_wp2_with fail
      refine (num_any _ _).mono ?_
      rintro e w' ⟨rfl, rfl⟩
      go_wp2_with fail
      refine (awake9 _).mono ?_
      rintro e w3 ⟨rfl, hb3⟩
      go_wp2_with fail
      go_ret
      exact ⟨rfl, hb3⟩
    · have hl : ((ByteArray.mk #[114, 119, 103]).size : Int) = 3 := rfl
      go_enter Try.func4, Try.ntmps4
      go_wp2_with fail
      refine (parse_7 _).mono ?_
      rintro e w' ⟨rfl, rfl⟩
      go_wp2_with fail
      refine (rparse_7 _).mono ?_
      rintro e w' ⟨rfl, rfl⟩
      go_wp2_with fail
      refine (num_any _ _).mono ?_
      rintro e w' ⟨rfl, rfl⟩
      go_wp2_with fail
      refine (awake9 _).mono ?_
      rintro e w3 ⟨rfl, hb3⟩
      go_wp2_with fail
      go_ret
      exact ⟨rfl, hb3⟩
  · have HT := hide ht
    clear ht
    go_enter Try.func4, Try.ntmps4
    go_wp2_with fail
    refine (parse_none s HT.out _).mono ?_
    rintro e w' ⟨rfl, rfl⟩
    go_wp2_with fail
    refine (rparse_none s (no_text s HT.out) _).mono ?_
    rintro e w' ⟨rfl, rfl⟩
    go_wp2_with fail
    refine (num_any _ _).mono ?_
    rintro e w' ⟨rfl, rfl⟩
    go_wp2_with fail
    refine (awake9 _).mono ?_
    rintro e w3 ⟨rfl, hb3⟩
    go_wp2_with fail
    go_ret
    exact ⟨rfl, hb3⟩

end Go.Proofs.Ytdmpdfogilcjnaa
