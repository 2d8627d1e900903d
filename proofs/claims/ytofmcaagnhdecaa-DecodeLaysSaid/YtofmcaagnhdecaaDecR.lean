/- The walks of the reference of chapter 28: form, fits, order. -/
import Derived.Test.YtofmcaagnhdecaaDecL
import Derived.WalkMore
namespace Go.Proofs.Ytofmcaagnhdecaa
open Go.RowKit Go.Shelf

/-- The letters of an operation's words. -/
def formSB (op : Int) : ByteArray :=
  if op = 1 then ⟨#[97, 107, 122, 97, 105, 99]⟩ else
  if op = 2 then ⟨#[97, 97, 109]⟩ else
  if op = 3 then ⟨#[97, 97, 109, 119]⟩ else
  if op = 4 then ⟨#[97, 97]⟩ else
  if op = 5 then ⟨#[97, 97]⟩ else
  if op = 6 then ⟨#[97]⟩ else
  if op = 7 then ⟨#[97, 98]⟩ else
  if op = 8 then ⟨#[97, 97, 119]⟩ else
  if op = 9 then ⟨#[97]⟩ else
  if op = 10 then ⟨#[97, 97, 119, 109]⟩ else
  if op = 11 then ⟨#[97]⟩ else
  if op = 12 then ⟨#[97, 97]⟩ else
  if op = 13 then ⟨#[97, 97]⟩ else
  if op = 14 then ⟨#[97, 103, 119, 119, 119, 119]⟩ else
  if op = 15 then ⟨#[97, 103, 119, 119, 119, 119]⟩ else
  if op = 16 then ⟨#[97, 103]⟩ else
  if op = 17 then ⟨#[119, 119, 119, 119]⟩ else
  if op = 18 then ⟨#[]⟩ else
  if op = 19 then ⟨#[97, 115, 97]⟩ else
  if op = 20 then ⟨#[97, 115]⟩ else
  if op = 21 then ⟨#[97]⟩ else
  if op = 22 then ⟨#[97]⟩ else
  if op = 23 then ⟨#[97, 112]⟩ else
  ⟨#[63]⟩
theorem rform_1 (w : World) : Calls Try.prog 18 #[.int .u64 1] w fun e w' => e = .returned (.string ⟨#[97, 107, 122, 97, 105, 99]⟩) ∧ w = w' := by
  go_enter Try.func18, Try.ntmps18
  go_wp2_with fail
  go_ret
  exact ⟨rfl, rfl⟩
theorem rform_2 (w : World) : Calls Try.prog 18 #[.int .u64 2] w fun e w' => e = .returned (.string ⟨#[97, 97, 109]⟩) ∧ w = w' := by
  go_enter Try.func18, Try.ntmps18
  go_wp2_with fail
  go_ret
  exact ⟨rfl, rfl⟩
theorem rform_3 (w : World) : Calls Try.prog 18 #[.int .u64 3] w fun e w' => e = .returned (.string ⟨#[97, 97, 109, 119]⟩) ∧ w = w' := by
  go_enter Try.func18, Try.ntmps18
  go_wp2_with fail
  go_ret
  exact ⟨rfl, rfl⟩
theorem rform_4 (w : World) : Calls Try.prog 18 #[.int .u64 4] w fun e w' => e = .returned (.string ⟨#[97, 97]⟩) ∧ w = w' := by
  go_enter Try.func18, Try.ntmps18
  go_wp2_with fail
  go_ret
  exact ⟨rfl, rfl⟩
theorem rform_5 (w : World) : Calls Try.prog 18 #[.int .u64 5] w fun e w' => e = .returned (.string ⟨#[97, 97]⟩) ∧ w = w' := by
  go_enter Try.func18, Try.ntmps18
  go_wp2_with fail
  go_ret
  exact ⟨rfl, rfl⟩
theorem rform_6 (w : World) : Calls Try.prog 18 #[.int .u64 6] w fun e w' => e = .returned (.string ⟨#[97]⟩) ∧ w = w' := by
  go_enter Try.func18, Try.ntmps18
  go_wp2_with fail
  go_ret
  exact ⟨rfl, rfl⟩
theorem rform_7 (w : World) : Calls Try.prog 18 #[.int .u64 7] w fun e w' => e = .returned (.string ⟨#[97, 98]⟩) ∧ w = w' := by
  go_enter Try.func18, Try.ntmps18
  go_wp2_with fail
  go_ret
  exact ⟨rfl, rfl⟩
theorem rform_8 (w : World) : Calls Try.prog 18 #[.int .u64 8] w fun e w' => e = .returned (.string ⟨#[97, 97, 119]⟩) ∧ w = w' := by
  go_enter Try.func18, Try.ntmps18
  go_wp2_with fail
  go_ret
  exact ⟨rfl, rfl⟩
theorem rform_9 (w : World) : Calls Try.prog 18 #[.int .u64 9] w fun e w' => e = .returned (.string ⟨#[97]⟩) ∧ w = w' := by
  go_enter Try.func18, Try.ntmps18
  go_wp2_with fail
  go_ret
  exact ⟨rfl, rfl⟩
theorem rform_10 (w : World) : Calls Try.prog 18 #[.int .u64 10] w fun e w' => e = .returned (.string ⟨#[97, 97, 119, 109]⟩) ∧ w = w' := by
  go_enter Try.func18, Try.ntmps18
  go_wp2_with fail
  go_ret
  exact ⟨rfl, rfl⟩
theorem rform_11 (w : World) : Calls Try.prog 18 #[.int .u64 11] w fun e w' => e = .returned (.string ⟨#[97]⟩) ∧ w = w' := by
  go_enter Try.func18, Try.ntmps18
  go_wp2_with fail
  go_ret
  exact ⟨rfl, rfl⟩
theorem rform_12 (w : World) : Calls Try.prog 18 #[.int .u64 12] w fun e w' => e = .returned (.string ⟨#[97, 97]⟩) ∧ w = w' := by
  go_enter Try.func18, Try.ntmps18
  go_wp2_with fail
  go_ret
  exact ⟨rfl, rfl⟩
theorem rform_13 (w : World) : Calls Try.prog 18 #[.int .u64 13] w fun e w' => e = .returned (.string ⟨#[97, 97]⟩) ∧ w = w' := by
  go_enter Try.func18, Try.ntmps18
  go_wp2_with fail
  go_ret
  exact ⟨rfl, rfl⟩
theorem rform_14 (w : World) : Calls Try.prog 18 #[.int .u64 14] w fun e w' => e = .returned (.string ⟨#[97, 103, 119, 119, 119, 119]⟩) ∧ w = w' := by
  go_enter Try.func18, Try.ntmps18
  go_wp2_with fail
  go_ret
  exact ⟨rfl, rfl⟩
theorem rform_15 (w : World) : Calls Try.prog 18 #[.int .u64 15] w fun e w' => e = .returned (.string ⟨#[97, 103, 119, 119, 119, 119]⟩) ∧ w = w' := by
  go_enter Try.func18, Try.ntmps18
  go_wp2_with fail
  go_ret
  exact ⟨rfl, rfl⟩
theorem rform_16 (w : World) : Calls Try.prog 18 #[.int .u64 16] w fun e w' => e = .returned (.string ⟨#[97, 103]⟩) ∧ w = w' := by
  go_enter Try.func18, Try.ntmps18
  go_wp2_with fail
  go_ret
  exact ⟨rfl, rfl⟩
theorem rform_17 (w : World) : Calls Try.prog 18 #[.int .u64 17] w fun e w' => e = .returned (.string ⟨#[119, 119, 119, 119]⟩) ∧ w = w' := by
  go_enter Try.func18, Try.ntmps18
  go_wp2_with fail
  go_ret
  exact ⟨rfl, rfl⟩
theorem rform_18 (w : World) : Calls Try.prog 18 #[.int .u64 18] w fun e w' => e = .returned (.string ⟨#[]⟩) ∧ w = w' := by
  go_enter Try.func18, Try.ntmps18
  go_wp2_with fail
  go_ret
  exact ⟨rfl, rfl⟩
theorem rform_19 (w : World) : Calls Try.prog 18 #[.int .u64 19] w fun e w' => e = .returned (.string ⟨#[97, 115, 97]⟩) ∧ w = w' := by
  go_enter Try.func18, Try.ntmps18
  go_wp2_with fail
  go_ret
  exact ⟨rfl, rfl⟩
theorem rform_20 (w : World) : Calls Try.prog 18 #[.int .u64 20] w fun e w' => e = .returned (.string ⟨#[97, 115]⟩) ∧ w = w' := by
  go_enter Try.func18, Try.ntmps18
  go_wp2_with fail
  go_ret
  exact ⟨rfl, rfl⟩
theorem rform_21 (w : World) : Calls Try.prog 18 #[.int .u64 21] w fun e w' => e = .returned (.string ⟨#[97]⟩) ∧ w = w' := by
  go_enter Try.func18, Try.ntmps18
  go_wp2_with fail
  go_ret
  exact ⟨rfl, rfl⟩
theorem rform_22 (w : World) : Calls Try.prog 18 #[.int .u64 22] w fun e w' => e = .returned (.string ⟨#[97]⟩) ∧ w = w' := by
  go_enter Try.func18, Try.ntmps18
  go_wp2_with fail
  go_ret
  exact ⟨rfl, rfl⟩
theorem rform_23 (w : World) : Calls Try.prog 18 #[.int .u64 23] w fun e w' => e = .returned (.string ⟨#[97, 112]⟩) ∧ w = w' := by
  go_enter Try.func18, Try.ntmps18
  go_wp2_with fail
  go_ret
  exact ⟨rfl, rfl⟩
theorem rform_x (op : Int) (w : World) (h1 : ¬ op = 1) (h2 : ¬ op = 2) (h3 : ¬ op = 3) (h4 : ¬ op = 4) (h5 : ¬ op = 5) (h6 : ¬ op = 6) (h7 : ¬ op = 7) (h8 : ¬ op = 8) (h9 : ¬ op = 9) (h10 : ¬ op = 10) (h11 : ¬ op = 11) (h12 : ¬ op = 12) (h13 : ¬ op = 13) (h14 : ¬ op = 14) (h15 : ¬ op = 15) (h16 : ¬ op = 16) (h17 : ¬ op = 17) (h18 : ¬ op = 18) (h19 : ¬ op = 19) (h20 : ¬ op = 20) (h21 : ¬ op = 21) (h22 : ¬ op = 22) (h23 : ¬ op = 23) : Calls Try.prog 18 #[.int .u64 op] w fun e w' => e = .returned (.string ⟨#[63]⟩) ∧ w = w' := by
  go_enter Try.func18, Try.ntmps18
  go_wp2_with fail
  go_ret
  exact ⟨rfl, rfl⟩
theorem rform_any (op : Int) (w : World) : Calls Try.prog 18 #[.int .u64 op] w fun e w' => e = .returned (.string (formSB op)) ∧ w = w' := by
  unfold formSB
  by_cases h1 : op = 1
  · rw [if_pos h1]; subst h1; exact rform_1 w
  rw [if_neg h1]
  by_cases h2 : op = 2
  · rw [if_pos h2]; subst h2; exact rform_2 w
  rw [if_neg h2]
  by_cases h3 : op = 3
  · rw [if_pos h3]; subst h3; exact rform_3 w
  rw [if_neg h3]
  by_cases h4 : op = 4
  · rw [if_pos h4]; subst h4; exact rform_4 w
  rw [if_neg h4]
  by_cases h5 : op = 5
  · rw [if_pos h5]; subst h5; exact rform_5 w
  rw [if_neg h5]
  by_cases h6 : op = 6
  · rw [if_pos h6]; subst h6; exact rform_6 w
  rw [if_neg h6]
  by_cases h7 : op = 7
  · rw [if_pos h7]; subst h7; exact rform_7 w
  rw [if_neg h7]
  by_cases h8 : op = 8
  · rw [if_pos h8]; subst h8; exact rform_8 w
  rw [if_neg h8]
  by_cases h9 : op = 9
  · rw [if_pos h9]; subst h9; exact rform_9 w
  rw [if_neg h9]
  by_cases h10 : op = 10
  · rw [if_pos h10]; subst h10; exact rform_10 w
  rw [if_neg h10]
  by_cases h11 : op = 11
  · rw [if_pos h11]; subst h11; exact rform_11 w
  rw [if_neg h11]
  by_cases h12 : op = 12
  · rw [if_pos h12]; subst h12; exact rform_12 w
  rw [if_neg h12]
  by_cases h13 : op = 13
  · rw [if_pos h13]; subst h13; exact rform_13 w
  rw [if_neg h13]
  by_cases h14 : op = 14
  · rw [if_pos h14]; subst h14; exact rform_14 w
  rw [if_neg h14]
  by_cases h15 : op = 15
  · rw [if_pos h15]; subst h15; exact rform_15 w
  rw [if_neg h15]
  by_cases h16 : op = 16
  · rw [if_pos h16]; subst h16; exact rform_16 w
  rw [if_neg h16]
  by_cases h17 : op = 17
  · rw [if_pos h17]; subst h17; exact rform_17 w
  rw [if_neg h17]
  by_cases h18 : op = 18
  · rw [if_pos h18]; subst h18; exact rform_18 w
  rw [if_neg h18]
  by_cases h19 : op = 19
  · rw [if_pos h19]; subst h19; exact rform_19 w
  rw [if_neg h19]
  by_cases h20 : op = 20
  · rw [if_pos h20]; subst h20; exact rform_20 w
  rw [if_neg h20]
  by_cases h21 : op = 21
  · rw [if_pos h21]; subst h21; exact rform_21 w
  rw [if_neg h21]
  by_cases h22 : op = 22
  · rw [if_pos h22]; subst h22; exact rform_22 w
  rw [if_neg h22]
  by_cases h23 : op = 23
  · rw [if_pos h23]; subst h23; exact rform_23 w
  rw [if_neg h23]
  exact rform_x op w h1 h2 h3 h4 h5 h6 h7 h8 h9 h10 h11 h12 h13 h14 h15 h16 h17 h18 h19 h20 h21 h22 h23
/-- Is a word within its letter's range? -/
def fitL (l x : Int) : Bool :=
  if l = 97 then decide (x < 4096) else
  if l = 103 then decide (x ≤ 4096) else
  if l = 109 then decide (x ≤ 7) else
  if l = 112 then decide (x ≤ 7) else
  if l = 98 then decide (1 ≤ x) && decide (x ≤ 64) else
  if l = 115 then decide (x < 3) else
  if l = 105 then decide (x ≤ 15) else
  if l = 99 then decide (1 ≤ x) && decide (x ≤ 4) else
  true
theorem rfits_97 (x : Int) (w : World) : Calls Try.prog 20 #[.int .u8 97, .int .u64 x] w fun e w' => e = .returned (.bool (decide (x < 4096))) ∧ w = w' := by
  go_enter Try.func20, Try.ntmps20
  go_wp2_with fail
  go_ret
  exact ⟨rfl, rfl⟩
theorem rfits_103 (x : Int) (w : World) : Calls Try.prog 20 #[.int .u8 103, .int .u64 x] w fun e w' => e = .returned (.bool (decide (x ≤ 4096))) ∧ w = w' := by
  go_enter Try.func20, Try.ntmps20
  go_wp2_with fail
  go_ret
  exact ⟨rfl, rfl⟩
theorem rfits_109 (x : Int) (w : World) : Calls Try.prog 20 #[.int .u8 109, .int .u64 x] w fun e w' => e = .returned (.bool (decide (x ≤ 7))) ∧ w = w' := by
  go_enter Try.func20, Try.ntmps20
  go_wp2_with fail
  go_ret
  exact ⟨rfl, rfl⟩
theorem rfits_112 (x : Int) (w : World) : Calls Try.prog 20 #[.int .u8 112, .int .u64 x] w fun e w' => e = .returned (.bool (decide (x ≤ 7))) ∧ w = w' := by
  go_enter Try.func20, Try.ntmps20
  go_wp2_with fail
  go_ret
  exact ⟨rfl, rfl⟩
theorem rfits_98 (x : Int) (w : World) : Calls Try.prog 20 #[.int .u8 98, .int .u64 x] w fun e w' => e = .returned (.bool (decide (1 ≤ x) && decide (x ≤ 64))) ∧ w = w' := by
  by_cases h1 : 1 ≤ x
  · have d1 : decide (1 ≤ x) = true := by simpa using h1
    rw [d1, Bool.true_and]
    go_enter Try.func20, Try.ntmps20
    go_wp2_with fail
    go_ret
    exact ⟨rfl, rfl⟩
  · have d1 : decide (1 ≤ x) = false := by simpa using h1
    rw [d1, Bool.false_and]
    go_enter Try.func20, Try.ntmps20
    go_wp2_with fail
    go_ret
    exact ⟨rfl, rfl⟩
theorem rfits_115 (x : Int) (w : World) : Calls Try.prog 20 #[.int .u8 115, .int .u64 x] w fun e w' => e = .returned (.bool (decide (x < 3))) ∧ w = w' := by
  go_enter Try.func20, Try.ntmps20
  go_wp2_with fail
  go_ret
  exact ⟨rfl, rfl⟩
theorem rfits_105 (x : Int) (w : World) : Calls Try.prog 20 #[.int .u8 105, .int .u64 x] w fun e w' => e = .returned (.bool (decide (x ≤ 15))) ∧ w = w' := by
  go_enter Try.func20, Try.ntmps20
  go_wp2_with fail
  go_ret
  exact ⟨rfl, rfl⟩
theorem rfits_99 (x : Int) (w : World) : Calls Try.prog 20 #[.int .u8 99, .int .u64 x] w fun e w' => e = .returned (.bool (decide (1 ≤ x) && decide (x ≤ 4))) ∧ w = w' := by
  by_cases h1 : 1 ≤ x
  · have d1 : decide (1 ≤ x) = true := by simpa using h1
    rw [d1, Bool.true_and]
    go_enter Try.func20, Try.ntmps20
    go_wp2_with fail
    go_ret
    exact ⟨rfl, rfl⟩
  · have d1 : decide (1 ≤ x) = false := by simpa using h1
    rw [d1, Bool.false_and]
    go_enter Try.func20, Try.ntmps20
    go_wp2_with fail
    go_ret
    exact ⟨rfl, rfl⟩
theorem rfits_x (l x : Int) (w : World) (h97 : ¬ l = 97) (h103 : ¬ l = 103) (h109 : ¬ l = 109) (h112 : ¬ l = 112) (h98 : ¬ l = 98) (h115 : ¬ l = 115) (h105 : ¬ l = 105) (h99 : ¬ l = 99) : Calls Try.prog 20 #[.int .u8 l, .int .u64 x] w fun e w' => e = .returned (.bool true) ∧ w = w' := by
  go_enter Try.func20, Try.ntmps20
  go_wp2_with fail
  go_ret
  exact ⟨rfl, rfl⟩
theorem rfits_any (l x : Int) (w : World) : Calls Try.prog 20 #[.int .u8 l, .int .u64 x] w fun e w' => e = .returned (.bool (fitL l x)) ∧ w = w' := by
  unfold fitL
  by_cases h97 : l = 97
  · rw [if_pos h97]; subst h97; exact rfits_97 x w
  rw [if_neg h97]
  by_cases h103 : l = 103
  · rw [if_pos h103]; subst h103; exact rfits_103 x w
  rw [if_neg h103]
  by_cases h109 : l = 109
  · rw [if_pos h109]; subst h109; exact rfits_109 x w
  rw [if_neg h109]
  by_cases h112 : l = 112
  · rw [if_pos h112]; subst h112; exact rfits_112 x w
  rw [if_neg h112]
  by_cases h98 : l = 98
  · rw [if_pos h98]; subst h98; exact rfits_98 x w
  rw [if_neg h98]
  by_cases h115 : l = 115
  · rw [if_pos h115]; subst h115; exact rfits_115 x w
  rw [if_neg h115]
  by_cases h105 : l = 105
  · rw [if_pos h105]; subst h105; exact rfits_105 x w
  rw [if_neg h105]
  by_cases h99 : l = 99
  · rw [if_pos h99]; subst h99; exact rfits_99 x w
  rw [if_neg h99]
  exact rfits_x l x w h97 h103 h109 h112 h98 h115 h105 h99
end Go.Proofs.Ytofmcaagnhdecaa
