import Derived.Test.YtmipifokpogpbaaBR
set_option linter.unusedSimpArgs false
set_option linter.unusedVariables false
namespace Go.Proofs.Ytmipifokpogpbaa.L6
open Go.RowKit Go.Proofs.YtmipifokpogpbaaW.PrintWords Go.Proofs.YtmipifokpogpbaaW.PrintLast Go.Proofs.Ytmipifokpogpbaa.C1 Go.Proofs.Ytmipifokpogpbaa.C2 Go.Proofs.Ytmipifokpogpbaa.C3 Go.Proofs.Ytmipifokpogpbaa.C4 Go.Proofs.Ytmipifokpogpbaa.MU Go.Proofs.Ytmipifokpogpbaa.BR

set_option maxHeartbeats 4000000 in
theorem law (a : Int) (A : Option Addr) (m c : Nat) (l : List Int) (w : World) (hr : ReadsInt w .i64 A m l) (h64 : In64 l) (hm : m ≤ 1000000000000000) (a1 : -9223372036854775808 ≤ a) (a2 : a ≤ 9223372036854775807) :
    Calls Try.prog 6 #[.int .i64 a, .slice A m c] w fun e w' => e = .returned (.bool true) ∧ Below w.heap.size w w' := by
  have hl := Lib.hid hr.1
  by_cases hbig : 40 < m
  · go_enter Try.func6, Try.ntmps6
    go_wp2_with (go_at_call 12; (with_reducible refine (C4.awake _).mono ?_); rintro e W1 ⟨rfl, hB⟩)
    go_ret
    exact ⟨rfl, hB⟩
  have o1 := Lib.hid (sumI_ok h64 false m (by have := hl.out; omega) (by omega))
  have o2 := Lib.hid (prodI_ok h64 m (by have := hl.out; omega) (by omega))
  have o3 := Lib.hid (add_ok h64 true m (by have := hl.out; omega) (by omega) a1 a2)
  have o4 := Lib.hid (sumI_ok h64 true m (by have := hl.out; omega) (by omega))
  have o5 := Lib.hid (R9.one_ok a1 a2)
  have o6 := Lib.hid (show -10 ^ 1000000 < -a ∧ -a < 10 ^ 1000000 by have := o5.out; omega)
  go_enter Try.func6, Try.ntmps6
  go_wp2_with fail
  (with_reducible refine (add A m c l _ hr h64 (by omega)).mono ?_)
  rintro e W1 ⟨rfl, hB1⟩
  have hr := hr.below hB1
  go_wp2_with fail
  (with_reducible refine (mul A m c l _ hr h64 (by omega)).mono ?_)
  rintro e W2 ⟨rfl, hB2⟩
  have hr := hr.below hB2
  have hB := hB1.trans (hB2.mono hB1.size)
  clear hB1 hB2
  go_wp2_with fail
  (with_reducible refine (sub a A m c l _ hr h64 (by omega) a1 a2).mono ?_)
  rintro e W3 ⟨rfl, hB3⟩
  have hr := hr.below hB3
  have hB := hB.trans (hB3.mono hB.size)
  clear hB3
  go_wp2_with fail
  (with_reducible refine (neg a _ a1 a2).mono ?_)
  rintro e W4 ⟨rfl, hB4⟩
  have hr := hr.below hB4
  have hB := hB.trans (hB4.mono hB.size)
  clear hB4
  go_wp2_with fail
  (with_reducible refine (sumR false A m c l _ hr h64 (by omega)).mono ?_)
  rintro e W5 ⟨v5, rfl, n5, hB5⟩
  have hr := hr.below hB5
  have hB := hB.trans (hB5.mono hB.size)
  clear hB5
  go_wp2_with fail
  (with_reducible refine (told v5 _ _ n5 o1.out).mono ?_)
  rintro e W6 ⟨rfl, hB6⟩
  have hr := hr.below hB6
  have hB := hB.trans (hB6.mono hB.size)
  clear hB6
  go_wp2_with fail
  (with_reducible refine (prodR A m c l _ hr h64 (by omega)).mono ?_)
  rintro e W7 ⟨v7, rfl, n7, hB7⟩
  have hr := hr.below hB7
  have hB := hB.trans (hB7.mono hB.size)
  clear hB7
  go_wp2_with fail
  (with_reducible refine (told v7 _ _ n7 o2.out).mono ?_)
  rintro e W8 ⟨rfl, hB8⟩
  have hr := hr.below hB8
  have hB := hB.trans (hB8.mono hB.size)
  clear hB8
  go_wp2_with fail
  (with_reducible refine (R5.of_ a _ a1 a2).mono ?_)
  rintro e W9 ⟨v9, rfl, n9, hB9⟩
  have hr := hr.below hB9
  have hB := hB.trans (hB9.mono hB.size)
  clear hB9
  go_wp2_with fail
  (with_reducible refine (sumR true A m c l _ hr h64 (by omega)).mono ?_)
  rintro e W10 ⟨v10, rfl, n10, hB10⟩
  have n9 := n9.below hB10
  have hB := hB.trans (hB10.mono hB.size)
  clear hB10 hr
  go_wp2_with fail
  (with_reducible refine (R3.plus v9 v10 _ _ _ n9 n10 o5.out.1 o5.out.2 o4.out.1 o4.out.2).mono ?_)
  rintro e W11 ⟨v11, rfl, n11, hB11⟩
  have hB := hB.trans (hB11.mono hB.size)
  clear hB11
  go_wp2_with fail
  (with_reducible refine (told v11 _ _ n11 o3.out).mono ?_)
  rintro e W12 ⟨rfl, hB12⟩
  have hB := hB.trans (hB12.mono hB.size)
  clear hB12
  go_wp2_with fail
  (with_reducible refine (R5.of_ a _ a1 a2).mono ?_)
  rintro e W13 ⟨v13, rfl, n13, hB13⟩
  have hB := hB.trans (hB13.mono hB.size)
  clear hB13
  go_wp2_with fail
  (with_reducible refine (R3.minus v13 _ _ n13).mono ?_)
  rintro e W14 ⟨v14, rfl, n14, hB14⟩
  have hB := hB.trans (hB14.mono hB.size)
  clear hB14
  go_wp2_with fail
  (with_reducible refine (told v14 _ _ n14 o6.out).mono ?_)
  rintro e W15 ⟨rfl, hB15⟩
  have hB := hB.trans (hB15.mono hB.size)
  clear hB15
  go_wp2_with fail
  (with_reducible refine (awake _).mono ?_)
  rintro e W16 ⟨rfl, hB16⟩
  have hB := hB.trans (hB16.mono hB.size)
  go_wp2
  go_ret
  exact ⟨rfl, hB⟩
end Go.Proofs.Ytmipifokpogpbaa.L6
