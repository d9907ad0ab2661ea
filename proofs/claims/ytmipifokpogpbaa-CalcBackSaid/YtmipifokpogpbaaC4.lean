import Derived.Test.YtmipifokpogpbaaC3
set_option linter.unusedSimpArgs false
set_option linter.unusedVariables false
namespace Go.Proofs.Ytmipifokpogpbaa.C4
open Go.RowKit Go.Proofs.YtmipifokpogpbaaW.PrintWords Go.Proofs.YtmipifokpogpbaaW.PrintLast Go.Proofs.Ytmipifokpogpbaa.C1 Go.Proofs.Ytmipifokpogpbaa.C2 Go.Proofs.Ytmipifokpogpbaa.C3

/-- The sides are different, and something is left. -/
def offB (a b : Int) : Bool := (a.tmod b != 0) && (decide (a.tmod b < 0) != decide (b < 0))
/-- The quotient, rounded down; what is left. -/
def qV (a b : Int) : Int := if offB a b = true then a.tdiv b - 1 else a.tdiv b
def rV (a b : Int) : Int := if offB a b = true then a.tmod b + b else a.tmod b
theorem q_r (a b : Int) : b * qV a b + rV a b = a := by
  have := Int.mul_tdiv_add_tmod a b
  unfold qV rV
  split
  · rw [Int.mul_sub]; omega
  · exact this
theorem tm_bd (a : Int) {b : Int} (hb : b ≠ 0) : (a.tmod b).natAbs < b.natAbs := by
  rw [Int.natAbs_tmod]; exact Nat.mod_lt _ (by omega)
theorem r_bd (a : Int) {b : Int} (hb : b ≠ 0) : (0 < b → 0 ≤ rV a b ∧ rV a b < b) ∧ (b < 0 → b < rV a b ∧ rV a b ≤ 0) := by
  have h := tm_bd a hb
  unfold rV offB
  generalize a.tmod b = r at *
  by_cases h0 : r = 0
  · subst h0; simp
  · by_cases h1 : r < 0 <;> by_cases h2 : b < 0 <;> simp [h0, h1, h2] <;> omega
theorem td_bd {a b : Int} (a1 : -9223372036854775808 ≤ a) (a2 : a ≤ 9223372036854775807) (hb : b ≠ 0) (hb1 : b ≠ -1) : -9223372036854775808 ≤ a.tdiv b ∧ a.tdiv b ≤ 9223372036854775807 := by
  by_cases h1 : b = 1
  · rw [h1, Int.tdiv_one]; exact ⟨a1, a2⟩
  · have h := Int.natAbs_tdiv a b
    have h2 : a.natAbs.div b.natAbs ≤ a.natAbs / 2 := Nat.div_le_div_left (by omega) (by omega)
    omega
theorem q_bd {a b : Int} (a1 : -9223372036854775808 ≤ a) (a2 : a ≤ 9223372036854775807) (hb : b ≠ 0) (hb1 : b ≠ -1) : -9223372036854775808 ≤ qV a b ∧ qV a b ≤ 9223372036854775807 := by
  have h0 := td_bd a1 a2 hb hb1
  unfold qV
  split
  · rename_i ho
    have hne : a.tmod b ≠ 0 := by intro e; simp [offB, e] at ho
    have h1 : b ≠ 1 := by rintro rfl; simp at hne
    have h := Int.natAbs_tdiv a b
    have h2 : a.natAbs.div b.natAbs ≤ a.natAbs / 2 := Nat.div_le_div_left (by omega) (by omega)
    omega
  · exact h0

set_option maxHeartbeats 1000000 in
theorem parts_zero (a : Int) (w : World) : Calls Try.prog 35 #[.int .i64 a, .int .i64 0] w fun e w' => e = .returned (.tuple #[.int .i64 0, .int .i64 0, .int .i64 3]) ∧ Below w.heap.size w w' := by
  go_enter Try.func35, Try.ntmps35
  go_wp2
  go_returns
  exact ⟨rfl, Below.refl _ _⟩
set_option maxHeartbeats 1000000 in
theorem parts_neg (a : Int) (w : World) (a1 : -9223372036854775808 ≤ a) (a2 : a ≤ 9223372036854775807) : Calls Try.prog 35 #[.int .i64 a, .int .i64 (-1)] w fun e w' => e = .returned (.tuple #[.int .i64 (smV (-a)), .int .i64 0, .int .i64 (erV (-a))]) ∧ Below w.heap.size w w' := by
  go_enter Try.func35, Try.ntmps35
  go_wp2_with (go_at_call 29; (with_reducible refine (neg a _ a1 a2).mono ?_); rintro e w' ⟨rfl, hB⟩)
  go_returns
  exact ⟨rfl, hB⟩

set_option maxHeartbeats 2000000 in
theorem parts (a b : Int) (w : World) (a1 : -9223372036854775808 ≤ a) (a2 : a ≤ 9223372036854775807) (b1 : -9223372036854775808 ≤ b) (b2 : b ≤ 9223372036854775807) (hb : b ≠ 0) (hb1 : b ≠ -1) :
    Calls Try.prog 35 #[.int .i64 a, .int .i64 b] w fun e w' => e = .returned (.tuple #[.int .i64 (qV a b), .int .i64 (rV a b), .int .i64 0]) ∧ Below w.heap.size w w' := by
  have t1 := td_bd a1 a2 hb hb1
  have t2 := q_bd a1 a2 hb hb1
  have t3 := tm_bd a hb
  have t4 := r_bd a hb
  have d1 : (b == 0) = false := by simpa using hb
  have d2 : (b == -1) = false := by simpa using hb1
  have t7 : -9223372036854775808 ≤ rV a b ∧ rV a b ≤ 9223372036854775807 := by
    rcases Int.lt_or_gt_of_ne hb with h | h
    · have := t4.2 h; omega
    · have := t4.1 h; omega
  have t8 : -9223372036854775808 ≤ a.tmod b ∧ a.tmod b ≤ 9223372036854775807 := by omega
  have e1 := IntWalk.i64_in (a.tdiv b) (by omega)
  have e2 := IntWalk.i64_in (a.tmod b) (by omega)
  have hoff : offB a b = ((a.tmod b != 0) && (decide (a.tmod b < 0) != decide (b < 0))) := rfl
  cases ho : offB a b with
  | true =>
    have hoff2 := hoff.symm.trans ho
    have Q1 := Lib.hid (show qV a b = a.tdiv b - 1 by unfold qV; rw [ho]; simp)
    have R1 := Lib.hid (show rV a b = a.tmod b + b by unfold rV; rw [ho]; simp)
    have w1 : -9223372036854775808 ≤ a.tdiv b - 1 ∧ a.tdiv b - 1 ≤ 9223372036854775807 := by have := Q1.out; omega
    have w2 : -9223372036854775808 ≤ a.tmod b + b ∧ a.tmod b + b ≤ 9223372036854775807 := by have := R1.out; omega
    obtain ⟨w1a, w1b⟩ := w1
    obtain ⟨w2a, w2b⟩ := w2
    have HO := Lib.hid ho
    clear ho hoff t2 t4 t7
    go_enter Try.func35, Try.ntmps35
    go_wp2
    go_quiet (fail)
    clear e1 e2 t1 t3 t8
    generalize a.tdiv b = D at *
    generalize a.tmod b = M at *
    go_wp2
    all_goals first
      | (exfalso; simp_all; done)
      | (exfalso; simp_all; omega)
      | (go_returns; exact ⟨by rw [Q1.out, R1.out]; first | rfl | (simp [*]; done), pw_below_drewN (Below.refl _ _) _⟩)

  | false =>
    have hoff2 := hoff.symm.trans ho
    have Q1 := Lib.hid (show qV a b = a.tdiv b by unfold qV; rw [ho]; simp)
    have R1 := Lib.hid (show rV a b = a.tmod b by unfold rV; rw [ho]; simp)
    have w1 : -9223372036854775808 ≤ a.tdiv b ∧ a.tdiv b ≤ 9223372036854775807 := by have := Q1.out; omega
    have w2 : -9223372036854775808 ≤ a.tmod b ∧ a.tmod b ≤ 9223372036854775807 := by have := R1.out; omega
    obtain ⟨w1a, w1b⟩ := w1
    obtain ⟨w2a, w2b⟩ := w2
    have HO := Lib.hid ho
    clear ho hoff t2 t4 t7
    go_enter Try.func35, Try.ntmps35
    go_wp2
    go_quiet (fail)
    clear e1 e2 t1 t3 t8
    generalize a.tdiv b = D at *
    generalize a.tmod b = M at *
    go_wp2
    all_goals first
      | (exfalso; simp_all; done)
      | (exfalso; simp_all; omega)
      | (go_returns; exact ⟨by rw [Q1.out, R1.out]; first | rfl | (simp [*]; done), pw_below_drewN (Below.refl _ _) _⟩)

set_option maxHeartbeats 400000 in
theorem div_zero (a : Int) (w : World) : Calls Try.prog 10 #[.int .i64 a, .int .i64 0] w fun e w' => e = .returned (.tuple #[.int .i64 0, .int .i64 3]) ∧ Below w.heap.size w w' := by
  go_enter Try.func10, Try.ntmps10
  go_wp2_with (go_at_call 35; (with_reducible refine (parts_zero a _).mono ?_); rintro e w' ⟨rfl, hB⟩)
  go_ret2
  exact ⟨rfl, hB⟩
set_option maxHeartbeats 400000 in
theorem div_neg (a : Int) (w : World) (a1 : -9223372036854775808 ≤ a) (a2 : a ≤ 9223372036854775807) : Calls Try.prog 10 #[.int .i64 a, .int .i64 (-1)] w (NumA w (-a)) := by
  go_enter Try.func10, Try.ntmps10
  go_wp2_with (go_at_call 35; (with_reducible refine (parts_neg a _ a1 a2).mono ?_); rintro e w' ⟨rfl, hB⟩)
  go_ret2
  exact ⟨rfl, hB⟩
set_option maxHeartbeats 400000 in
theorem div (a b : Int) (w : World) (a1 : -9223372036854775808 ≤ a) (a2 : a ≤ 9223372036854775807) (b1 : -9223372036854775808 ≤ b) (b2 : b ≤ 9223372036854775807) (hb : b ≠ 0) (hb1 : b ≠ -1) :
    Calls Try.prog 10 #[.int .i64 a, .int .i64 b] w fun e w' => e = .returned (.tuple #[.int .i64 (qV a b), .int .i64 0]) ∧ Below w.heap.size w w' := by
  go_enter Try.func10, Try.ntmps10
  go_wp2_with (go_at_call 35; (with_reducible refine (parts a b _ a1 a2 b1 b2 hb hb1).mono ?_); rintro e w' ⟨rfl, hB⟩)
  go_ret2
  exact ⟨rfl, hB⟩
set_option maxHeartbeats 400000 in
theorem mod_zero (a : Int) (w : World) : Calls Try.prog 11 #[.int .i64 a, .int .i64 0] w fun e w' => e = .returned (.tuple #[.int .i64 0, .int .i64 3]) ∧ Below w.heap.size w w' := by
  go_enter Try.func11, Try.ntmps11
  go_wp2_with (go_at_call 35; (with_reducible refine (parts_zero a _).mono ?_); rintro e w' ⟨rfl, hB⟩)
  go_ret2
  exact ⟨rfl, hB⟩
set_option maxHeartbeats 400000 in
theorem mod_neg (a : Int) (w : World) : Calls Try.prog 11 #[.int .i64 a, .int .i64 (-1)] w fun e w' => e = .returned (.tuple #[.int .i64 0, .int .i64 0]) ∧ Below w.heap.size w w' := by
  go_enter Try.func11, Try.ntmps11
  go_wp2
  go_ret2
  exact ⟨rfl, Below.refl _ _⟩
set_option maxHeartbeats 400000 in
theorem mod (a b : Int) (w : World) (a1 : -9223372036854775808 ≤ a) (a2 : a ≤ 9223372036854775807) (b1 : -9223372036854775808 ≤ b) (b2 : b ≤ 9223372036854775807) (hb : b ≠ 0) (hb1 : b ≠ -1) :
    Calls Try.prog 11 #[.int .i64 a, .int .i64 b] w fun e w' => e = .returned (.tuple #[.int .i64 (rV a b), .int .i64 0]) ∧ Below w.heap.size w w' := by
  have d2 : (b == -1) = false := by simpa using hb1
  go_enter Try.func11, Try.ntmps11
  go_wp2_with (go_at_call 35; (with_reducible refine (parts a b _ a1 a2 b1 b2 hb hb1).mono ?_); rintro e w' ⟨rfl, hB⟩)
  go_ret2
  exact ⟨rfl, hB⟩

theorem q72 : qV (-7) 2 = -4 := by decide
theorem r72 : rV (-7) 2 = 1 := by decide
theorem rd_three (w : World) (a b c : Int) (w0 : Nat) (h : w.heap[w0]? = some (.cells #[.int .i64 a, .int .i64 b, .int .i64 c] 2 (0, 0))) : ReadsInt w .i64 (some ⟨w0, 0, none⟩) 3 [a, b, c] := by
  refine ⟨rfl, by omega, fun _ => ⟨_, rfl, fun i hi => ?_⟩⟩
  rw [add_plain, blk_cell h i]
  rcases (show i = 0 ∨ i = 1 ∨ i = 2 by omega) with rfl | rfl | rfl <;> rfl
def a3 : List Int := [4611686018427387904, 4611686018427387904, -1]
theorem a3_sum : sumI a3 false 3 = 9223372036854775807 := by decide
theorem a3_in : In64 a3 := by unfold In64 a3; simp
theorem a3_sm : smV (sumI a3 false 3) = 9223372036854775807 := by rw [a3_sum]; decide
theorem a3_er : erV (sumI a3 false 3) = 0 := by rw [a3_sum]; decide

set_option maxHeartbeats 1000000 in
/-- The document's examples hold. -/
theorem awake (w : World) : Calls Try.prog 12 #[] w fun e w' => e = .returned (.bool true) ∧ Below w.heap.size w w' := by
  go_enter Try.func12, Try.ntmps12
  go_wp2_with fail
  (with_reducible refine (div (-7) 2 _ (by omega) (by omega) (by omega) (by omega) (by omega) (by omega)).mono ?_)
  rintro e W1 ⟨rfl, hB1⟩
  rw [q72]
  go_wp2_with fail
  (with_reducible refine (mod (-7) 2 _ (by omega) (by omega) (by omega) (by omega) (by omega) (by omega)).mono ?_)
  rintro e W2 ⟨rfl, hB2⟩
  rw [r72]
  go_wp2_with fail
  have hr := rd_three (W2.alloc (.cells #[.int .i64 4611686018427387904, .int .i64 4611686018427387904, .int .i64 (-1)] 2)) _ _ _ _ (get_new _ _ _ rfl)
  have P3 : Below W2.heap.size W2 (W2.alloc (.cells #[.int .i64 4611686018427387904, .int .i64 4611686018427387904, .int .i64 (-1)] 2)) := by go_grown
  generalize W2.alloc (.cells #[.int .i64 4611686018427387904, .int .i64 4611686018427387904, .int .i64 (-1)] 2) = W3 at *
  (with_reducible refine (add _ 3 3 a3 _ hr a3_in (by omega)).mono ?_)
  rintro e W4 ⟨rfl, hB4⟩
  rw [a3_sm, a3_er]
  go_wp2
  go_ret
  exact ⟨rfl, hB1.trans ((hB2.trans ((P3.trans (hB4.mono P3.size)).mono hB2.size)).mono hB1.size)⟩
end Go.Proofs.Ytmipifokpogpbaa.C4
