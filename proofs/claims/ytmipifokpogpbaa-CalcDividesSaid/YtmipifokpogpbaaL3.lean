import Derived.Test.YtmipifokpogpbaaBR
import Derived.Test.YtmipifokpogpbaaRF
set_option linter.unusedSimpArgs false
set_option linter.unusedVariables false
namespace Go.Proofs.Ytmipifokpogpbaa.L3
open Go.RowKit Go.Proofs.YtmipifokpogpbaaW.PrintWords Go.Proofs.YtmipifokpogpbaaW.PrintLast Go.Proofs.Ytmipifokpogpbaa.C1 Go.Proofs.Ytmipifokpogpbaa.C2 Go.Proofs.Ytmipifokpogpbaa.C3 Go.Proofs.Ytmipifokpogpbaa.C4 Go.Proofs.Ytmipifokpogpbaa.BR

theorem toldR (v : Value) (x : Int) (w : World) (h : R2.Num w v x) (x0 : -9223372036854775808 ≤ x) (x1 : x ≤ 9223372036854775807) :
    Calls Try.prog 13 #[v, .int .i64 x, .int .i64 0] w fun e w' => e = .returned (.bool true) ∧ Below w.heap.size w w' := by
  have hi : inR x = true := by simp [inR]; omega
  have := told v x w h (R9.one_ok x0 x1)
  rwa [smV_yes hi, erV_yes hi] at this

set_option maxHeartbeats 400000 in
theorem zero (a : Int) (w : World) : Calls Try.prog 3 #[.int .i64 a, .int .i64 0] w fun e w' => e = .returned (.bool true) ∧ Below w.heap.size w w' := by
  go_enter Try.func3, Try.ntmps3
  go_wp2_with fail
  (with_reducible refine (div_zero a _).mono ?_)
  rintro e W1 ⟨rfl, hB1⟩
  go_wp2_with fail
  (with_reducible refine (mod_zero a _).mono ?_)
  rintro e W2 ⟨rfl, hB2⟩
  go_wp2_with fail
  (with_reducible refine (awake _).mono ?_)
  rintro e W3 ⟨rfl, hB3⟩
  go_wp2
  go_ret
  exact ⟨rfl, hB1.trans ((hB2.trans (hB3.mono hB2.size)).mono hB1.size)⟩

set_option maxHeartbeats 1000000 in
theorem one (a : Int) (w : World) (a1 : -9223372036854775808 ≤ a) (a2 : a ≤ 9223372036854775807) : Calls Try.prog 3 #[.int .i64 a, .int .i64 (-1)] w fun e w' => e = .returned (.bool true) ∧ Below w.heap.size w w' := by
  have o5 := Lib.hid (R9.one_ok a1 a2)
  have o6 := Lib.hid (show -10 ^ 1000000 < -a ∧ -a < 10 ^ 1000000 by have := o5.out; omega)
  go_enter Try.func3, Try.ntmps3
  go_wp2_with fail
  (with_reducible refine (div_neg a _ a1 a2).mono ?_)
  rintro e W1 ⟨rfl, hB1⟩
  go_wp2_with fail
  (with_reducible refine (mod_neg a _).mono ?_)
  rintro e W2 ⟨rfl, hB2⟩
  have hB := hB1.trans (hB2.mono hB1.size)
  clear hB1 hB2
  go_wp2_with fail
  (with_reducible refine (R5.of_ a _ a1 a2).mono ?_)
  rintro e W3 ⟨v3, rfl, n3, hB3⟩
  have hB := hB.trans (hB3.mono hB.size)
  clear hB3
  go_wp2_with fail
  (with_reducible refine (R3.minus v3 _ _ n3).mono ?_)
  rintro e W4 ⟨v4, rfl, n4, hB4⟩
  have hB := hB.trans (hB4.mono hB.size)
  clear hB4
  go_wp2_with fail
  (with_reducible refine (told v4 _ _ n4 o6.out).mono ?_)
  rintro e W5 ⟨rfl, hB5⟩
  have hB := hB.trans (hB5.mono hB.size)
  clear hB5
  go_wp2_with fail
  (with_reducible refine (awake _).mono ?_)
  rintro e W6 ⟨rfl, hB6⟩
  have hB := hB.trans (hB6.mono hB.size)
  go_wp2
  go_ret
  exact ⟨rfl, hB⟩

set_option maxHeartbeats 2000000 in
theorem rest (a b : Int) (w : World) (a1 : -9223372036854775808 ≤ a) (a2 : a ≤ 9223372036854775807) (b1 : -9223372036854775808 ≤ b) (b2 : b ≤ 9223372036854775807) (h0 : b ≠ 0) (h1 : b ≠ -1) :
    Calls Try.prog 3 #[.int .i64 a, .int .i64 b] w fun e w' => e = .returned (.bool true) ∧ Below w.heap.size w w' := by
  have hq := q_bd a1 a2 h0 h1
  have hr := r_bd a h0
  have hqr := q_r a b
  have hfl : RF.flB a b (qV a b) = true := by
    unfold RF.flB
    generalize b * qV a b = p at *
    rcases Int.lt_or_gt_of_ne h0 with h | h
    · have := hr.2 h; rw [if_pos h]; simp; omega
    · have := hr.1 h; rw [if_neg (by omega)]; simp; omega
  have hr2 : -9223372036854775808 ≤ rV a b ∧ rV a b ≤ 9223372036854775807 := by
    rcases Int.lt_or_gt_of_ne h0 with h | h
    · have := hr.2 h; omega
    · have := hr.1 h; omega
  obtain ⟨q1, q2⟩ := hq
  obtain ⟨r1, r2⟩ := hr2
  have hdiv := fun w => div a b w a1 a2 b1 b2 h0 h1
  have hmod := fun w => mod a b w a1 a2 b1 b2 h0 h1
  generalize qV a b = q at *
  generalize rV a b = r at *
  have hm := RF.mul_ok b1 b2 q1 q2
  have oa := Lib.hid (RF.far_ok (x := a) (by omega))
  have ob := Lib.hid (RF.far_ok (x := b) (by omega))
  have oq := Lib.hid (RF.far_ok (x := q) (by omega))
  have op := Lib.hid (RF.far_ok (x := -(b * q)) (by omega))
  have hl := Lib.hid (show a + -(b * q) = r by omega)
  have hfl := Lib.hid hfl
  clear hm hr hqr
  go_enter Try.func3, Try.ntmps3
  go_wp2_with fail
  (with_reducible refine (hdiv _).mono ?_)
  rintro e W1 ⟨rfl, hB1⟩
  go_wp2_with fail
  (with_reducible refine (hmod _).mono ?_)
  rintro e W2 ⟨rfl, hB2⟩
  have hB := hB1.trans (hB2.mono hB1.size)
  clear hB1 hB2 hdiv hmod
  go_wp2_with fail
  (with_reducible refine (R5.of_ a _ a1 a2).mono ?_)
  rintro e W3 ⟨v3, rfl, n3, hB3⟩
  have hB := hB.trans (hB3.mono hB.size)
  clear hB3
  go_wp2_with fail
  (with_reducible refine (R5.of_ b _ b1 b2).mono ?_)
  rintro e W4 ⟨v4, rfl, n4, hB4⟩
  have hB := hB.trans (hB4.mono hB.size)
  have n3 := n3.below hB4
  clear hB4
  go_wp2_with fail
  (with_reducible refine (R5.of_ q _ q1 q2).mono ?_)
  rintro e W5 ⟨v5, rfl, n5, hB5⟩
  have hB := hB.trans (hB5.mono hB.size)
  have n3 := n3.below hB5
  have n4 := n4.below hB5
  clear hB5
  go_wp2_with fail
  (with_reducible refine (R9.times v4 v5 b q _ n4 n5 ob.out.1 ob.out.2 oq.out.1 oq.out.2).mono ?_)
  rintro e W6 ⟨v6, rfl, n6, hB6⟩
  have hB := hB.trans (hB6.mono hB.size)
  have n3 := n3.below hB6
  clear hB6 n4 n5
  go_wp2_with fail
  (with_reducible refine (R3.minus v6 _ _ n6).mono ?_)
  rintro e W7 ⟨v7, rfl, n7, hB7⟩
  have hB := hB.trans (hB7.mono hB.size)
  have n3 := n3.below hB7
  clear hB7 n6
  go_wp2_with fail
  (with_reducible refine (R3.plus v3 v7 a (-(b * q)) _ n3 n7 oa.out.1 oa.out.2 op.out.1 op.out.2).mono ?_)
  rintro e W8 ⟨v8, rfl, n8, hB8⟩
  have hB := hB.trans (hB8.mono hB.size)
  rw [hl.out] at n8
  clear hB8 n3 n7
  obtain ⟨ng, A, c, ds, rfl, hrd, l1, l2, hx⟩ := n8
  have P9 : Below w.heap.size w (W8.alloc (.cells #[.bool ng, .slice A ds.length c] 29)) := hB.alloc hB.size _
  have E9 : Hid ((W8.alloc (.cells #[.bool ng, .slice A ds.length c] 29)).heap[W8.heap.size]? = some (.cells #[.bool ng, .slice A ds.length c] 29 (0, 0))) := get_new _ _ _ rfl
  have hrd := hrd.below (show Below W8.heap.size W8 (W8.alloc (.cells #[.bool ng, .slice A ds.length c] 29)) from by go_grown)
  go_wp2_with fail
  generalize W8.alloc (.cells #[.bool ng, .slice A ds.length c] 29) = W9 at *
  generalize W8.heap.size = g at *
  (with_reducible refine (RF.floor a b q _ a1 a2 b1 b2 q1 q2).mono ?_)
  rintro e W10 ⟨rfl, hB10⟩
  rw [hfl.out]
  have hB := P9.trans (hB10.mono P9.size)
  have E10 := (hB10.block _ (blk_lt E9.out)).trans E9.out
  have f0 : W10.cell? ⟨g, 0, none⟩ = some (.bool ng) := (blk_cell E10 0).trans rfl
  have f1 : W10.cell? ⟨g, 1, none⟩ = some (.slice A ds.length c) := (blk_cell E10 1).trans rfl
  have n10 : R2.Num W10 (.agg #[.bool ng, .slice A ds.length c]) r := ⟨ng, A, c, ds, rfl, hrd.below hB10, l1, l2, hx⟩
  clear E9 E10 hrd hB10 P9 hx
  go_wp2_with fail
  (with_reducible refine (toldR _ r _ n10 r1 r2).mono ?_)
  rintro e W11 ⟨rfl, hB11⟩
  have hB := hB.trans (hB11.mono hB.size)
  clear hB11 n10 f0 f1
  go_wp2_with fail
  (with_reducible refine (awake _).mono ?_)
  rintro e W12 ⟨rfl, hB12⟩
  have hB := hB.trans (hB12.mono hB.size)
  go_wp2
  go_ret
  exact ⟨rfl, hB⟩

theorem law (a b : Int) (w : World) (a1 : -9223372036854775808 ≤ a) (a2 : a ≤ 9223372036854775807) (b1 : -9223372036854775808 ≤ b) (b2 : b ≤ 9223372036854775807) :
    Calls Try.prog 3 #[.int .i64 a, .int .i64 b] w fun e w' => e = .returned (.bool true) ∧ Below w.heap.size w w' := by
  by_cases h0 : b = 0
  · subst h0; exact zero a w
  by_cases h1 : b = -1
  · subst h1; exact one a w a1 a2
  · exact rest a b w a1 a2 b1 b2 h0 h1
end Go.Proofs.Ytmipifokpogpbaa.L3
