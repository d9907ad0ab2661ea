import Derived.Test.YtmipifokpogpbaaMU
set_option linter.unusedSimpArgs false
set_option linter.unusedVariables false
namespace Go.Proofs.Ytmipifokpogpbaa.L7
open Go.RowKit Go.Proofs.YtmipifokpogpbaaW.PrintWords Go.Proofs.YtmipifokpogpbaaW.PrintLast Go.Proofs.Ytmipifokpogpbaa.C1 Go.Proofs.Ytmipifokpogpbaa.C2 Go.Proofs.Ytmipifokpogpbaa.C3 Go.Proofs.Ytmipifokpogpbaa.C4 Go.Proofs.Ytmipifokpogpbaa.MU

theorem rd_two (w : World) (a b : Int) (w0 : Nat) (h : w.heap[w0]? = some (.cells #[.int .i64 a, .int .i64 b] 2 (0, 0))) : ReadsInt w .i64 (some ⟨w0, 0, none⟩) 2 [a, b] := by
  refine ⟨rfl, by omega, fun _ => ⟨_, rfl, fun i hi => ?_⟩⟩
  rw [add_plain, blk_cell h i]
  rcases (show i = 0 ∨ i = 1 by omega) with rfl | rfl <;> rfl
theorem prod_two (a b : Int) : prodI [a, b] 2 = a * b := by
  have h0 : rd [a, b] ((0 : Nat) : Int) = a := rfl
  have h1 : rd [a, b] ((1 : Nat) : Int) = b := rfl
  simp only [prodI, h0, h1, Int.one_mul]
theorem sum_two (a b : Int) : sumI [a, b] false 2 = a + b := by
  have h0 : rd [a, b] ((0 : Nat) : Int) = a := rfl
  have h1 : rd [a, b] ((1 : Nat) : Int) = b := rfl
  simp only [sumI, sgnI, h0, h1]; simp
theorem in_two {a b : Int} (a1 : -9223372036854775808 ≤ a) (a2 : a ≤ 9223372036854775807) (b1 : -9223372036854775808 ≤ b) (b2 : b ≤ 9223372036854775807) : In64 [a, b] := by
  unfold In64; intro x hx
  simp only [List.mem_cons, List.not_mem_nil, or_false] at hx
  rcases hx with rfl | rfl <;> omega
theorem er_two {x : Int} (h : erV x ≠ 0) : erV x = 2 := by unfold erV at *; split at h <;> simp_all
theorem sm_bd (x : Int) : -9223372036854775808 ≤ smV x ∧ smV x ≤ 9223372036854775807 := by
  unfold smV; split
  · rename_i h; exact inR_of h
  · omega

set_option maxHeartbeats 400000 in
theorem zero (a : Int) (w : World) : Calls Try.prog 7 #[.int .i64 a, .int .i64 0] w fun e w' => e = .returned (.bool true) ∧ Below w.heap.size w w' := by
  go_enter Try.func7, Try.ntmps7
  go_wp2_with fail
  (with_reducible refine (div_zero a _).mono ?_)
  rintro e W1 ⟨rfl, hB1⟩
  go_wp2_with fail
  (with_reducible refine (mod_zero a _).mono ?_)
  rintro e W2 ⟨rfl, hB2⟩
  go_wp2_with fail
  (with_reducible refine (awake _).mono ?_)
  rintro e W3 ⟨rfl, hB3⟩
  go_wp2
  go_ret
  exact ⟨rfl, hB1.trans ((hB2.trans (hB3.mono hB2.size)).mono hB1.size)⟩

/-- What is asked of what is left. -/
structure Ok (b r : Int) : Prop where
  pos : 0 < b → 0 ≤ r ∧ r < b
  neg : b < 0 → b < r ∧ r ≤ 0
  ne : b ≠ 0

set_option maxHeartbeats 2000000 in
/-- From the quotient and what is left on. -/
theorem rest (a b q r : Int) (w W0 : World) (hB0 : Below w.heap.size w W0) (a1 : -9223372036854775808 ≤ a) (a2 : a ≤ 9223372036854775807) (b1 : -9223372036854775808 ≤ b) (b2 : b ≤ 9223372036854775807)
    (q1 : -9223372036854775808 ≤ q) (q2 : q ≤ 9223372036854775807) (hq : q * b + r = a) (hr : Ok b r)
    (hdiv : ∀ w, Calls Try.prog 10 #[.int .i64 a, .int .i64 b] w fun e w' => e = .returned (.tuple #[.int .i64 q, .int .i64 0]) ∧ Below w.heap.size w w')
    (hmod : ∀ w, Calls Try.prog 11 #[.int .i64 a, .int .i64 b] w fun e w' => e = .returned (.tuple #[.int .i64 r, .int .i64 0]) ∧ Below w.heap.size w w') :
    Calls Try.prog 7 #[.int .i64 a, .int .i64 b] w fun e w' => e = .returned (.bool true) ∧ Below w.heap.size w w' := by
  have r1 : -9223372036854775808 ≤ r ∧ r ≤ 9223372036854775807 := by
    rcases Int.lt_or_gt_of_ne hr.ne with h | h
    · have := hr.neg h; omega
    · have := hr.pos h; omega
  obtain ⟨r1, r2⟩ := r1
  have hq := Lib.hid hq
  go_enter Try.func7, Try.ntmps7
  go_wp2_with fail
  (with_reducible refine (hdiv _).mono ?_)
  rintro e W1 ⟨rfl, hB1⟩
  go_wp2_with fail
  (with_reducible refine (hmod _).mono ?_)
  rintro e W2 ⟨rfl, hB2⟩
  go_wp2_with fail
  have P2 : Below w.heap.size w W2 := hB1.trans (hB2.mono hB1.size)
  clear hB1 hB2 hdiv hmod
  have hrd := rd_two (W2.alloc (.cells #[.int .i64 q, .int .i64 b] 2)) _ _ _ (get_new _ _ _ rfl)
  have P3 : Below W2.heap.size W2 (W2.alloc (.cells #[.int .i64 q, .int .i64 b] 2)) := by go_grown
  generalize W2.alloc (.cells #[.int .i64 q, .int .i64 b] 2) = W3 at *
  (with_reducible refine (mul _ 2 2 _ _ hrd (in_two q1 q2 b1 b2) (by omega)).mono ?_)
  rintro e W4 ⟨rfl, hB4⟩
  have P4 : Below w.heap.size w W4 := P2.trans ((P3.trans (hB4.mono P3.size)).mono P2.size)
  clear P3 hB4 hrd P2
  rw [prod_two]
  cases hi : inR (q * b) with
  | true =>
    obtain ⟨p1, p2⟩ := inR_of hi
    have e1 := smV_yes hi
    have e2 := erV_yes hi
    rw [e1, e2]
    clear e1 e2 hi
    generalize q * b = p at *
    go_wp2_with fail
    have hrd := rd_two (W4.alloc (.cells #[.int .i64 p, .int .i64 r] 2)) _ _ _ (get_new _ _ _ rfl)
    have P5 : Below W4.heap.size W4 (W4.alloc (.cells #[.int .i64 p, .int .i64 r] 2)) := by go_grown
    generalize W4.alloc (.cells #[.int .i64 p, .int .i64 r] 2) = W5 at *
    (with_reducible refine (add _ 2 2 _ _ hrd (in_two p1 p2 r1 r2) (by omega)).mono ?_)
    rintro e W6 ⟨rfl, hB6⟩
    have P6 : Below w.heap.size w W6 := P4.trans ((P5.trans (hB6.mono P5.size)).mono P4.size)
    clear P5 hB6 hrd P4
    have e3 : inR a = true := by simp [inR]; omega
    rw [sum_two, hq.out, smV_yes e3, erV_yes e3]
    have hc : (0 < b ∧ r = 0) ∨ (0 < b ∧ 0 < r ∧ r < b) ∨ (b < 0 ∧ r = 0) ∨ (b < 0 ∧ r < 0 ∧ b < r) := by
      rcases Int.lt_or_gt_of_ne hr.ne with h | h
      · have := hr.neg h; omega
      · have := hr.pos h; omega
    clear hq hr
    rcases hc with ⟨h1, rfl⟩ | ⟨h1, h2, h3⟩ | ⟨h1, rfl⟩ | ⟨h1, h2, h3⟩
    all_goals
      go_wp2_with fail
      (with_reducible refine (awake _).mono ?_)
      rintro e W7 ⟨rfl, hB7⟩
      go_wp2
      go_ret
      exact ⟨rfl, P6.trans (hB7.mono P6.size)⟩
  | false =>
    rw [smV_no hi, erV_no hi]
    have hc : (0 < b ∧ r = 0) ∨ (0 < b ∧ 0 < r ∧ r < b) ∨ (b < 0 ∧ r = 0) ∨ (b < 0 ∧ r < 0 ∧ b < r) := by
      rcases Int.lt_or_gt_of_ne hr.ne with h | h
      · have := hr.neg h; omega
      · have := hr.pos h; omega
    clear hq hr
    rcases hc with ⟨h1, rfl⟩ | ⟨h1, h2, h3⟩ | ⟨h1, rfl⟩ | ⟨h1, h2, h3⟩
    all_goals
      go_wp2_with fail
      (with_reducible refine (awake _).mono ?_)
      rintro e W7 ⟨rfl, hB7⟩
      go_wp2
      go_ret
      exact ⟨rfl, P4.trans (hB7.mono P4.size)⟩

set_option maxHeartbeats 400000 in
theorem low (w : World) : Calls Try.prog 7 #[.int .i64 (-9223372036854775808), .int .i64 (-1)] w fun e w' => e = .returned (.bool true) ∧ Below w.heap.size w w' := by
  go_enter Try.func7, Try.ntmps7
  go_wp2_with fail
  (with_reducible refine (div_neg _ _ (by omega) (by omega)).mono ?_)
  rintro e W1 ⟨rfl, hB1⟩
  have e1 : erV (- -9223372036854775808) = 2 := by decide
  rw [e1]
  go_wp2_with fail
  (with_reducible refine (mod_neg _ _).mono ?_)
  rintro e W2 ⟨rfl, hB2⟩
  go_wp2_with fail
  (with_reducible refine (awake _).mono ?_)
  rintro e W3 ⟨rfl, hB3⟩
  go_wp2
  go_ret
  exact ⟨rfl, hB1.trans ((hB2.trans (hB3.mono hB2.size)).mono hB1.size)⟩

theorem law (a b : Int) (w : World) (a1 : -9223372036854775808 ≤ a) (a2 : a ≤ 9223372036854775807) (b1 : -9223372036854775808 ≤ b) (b2 : b ≤ 9223372036854775807) :
    Calls Try.prog 7 #[.int .i64 a, .int .i64 b] w fun e w' => e = .returned (.bool true) ∧ Below w.heap.size w w' := by
  by_cases h0 : b = 0
  · subst h0; exact zero a w
  by_cases h1 : b = -1
  · subst h1
    by_cases h2 : a = -9223372036854775808
    · subst h2; exact low w
    · have hi : inR (-a) = true := by simp [inR]; omega
      refine rest a (-1) (-a) 0 w w (Below.refl _ _) a1 a2 b1 b2 (by omega) (by omega) (by omega) ⟨by omega, by omega, by omega⟩ (fun w => ?_) (fun w => mod_neg a w)
      have := div_neg a w a1 a2
      unfold NumA at this
      rw [smV_yes hi, erV_yes hi] at this
      exact this
  · have hq := q_bd a1 a2 h0 h1
    have hr := r_bd a h0
    have e := q_r a b
    exact rest a b (qV a b) (rV a b) w w (Below.refl _ _) a1 a2 b1 b2 hq.1 hq.2 (by rw [Int.mul_comm]; exact e) ⟨hr.1, hr.2, h0⟩ (fun w => div a b w a1 a2 b1 b2 h0 h1) (fun w => mod a b w a1 a2 b1 b2 h0 h1)
end Go.Proofs.Ytmipifokpogpbaa.L7
