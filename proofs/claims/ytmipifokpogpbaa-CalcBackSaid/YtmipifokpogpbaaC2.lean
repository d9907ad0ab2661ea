import Derived.Test.YtmipifokpogpbaaC1
set_option linter.unusedSimpArgs false
set_option linter.unusedVariables false
namespace Go.Proofs.Ytmipifokpogpbaa.C2
open Go.RowKit Go.Proofs.YtmipifokpogpbaaW.PrintWords Go.Proofs.YtmipifokpogpbaaW.PrintLast Go.Proofs.Ytmipifokpogpbaa.C1

def inR (x : Int) : Bool := decide (-9223372036854775808 ≤ x) && decide (x ≤ 9223372036854775807)
def smV (x : Int) : Int := if inR x = true then x else 0
def erV (x : Int) : Int := if inR x = true then 0 else 2
theorem smV_yes {x : Int} (h : inR x = true) : smV x = x := if_pos h
theorem smV_no {x : Int} (h : inR x = false) : smV x = 0 := if_neg (by simp [h])
theorem erV_yes {x : Int} (h : inR x = true) : erV x = 0 := if_pos h
theorem erV_no {x : Int} (h : inR x = false) : erV x = 2 := if_neg (by simp [h])
theorem inR_of {x : Int} (h : inR x = true) : -9223372036854775808 ≤ x ∧ x ≤ 9223372036854775807 := by simpa [inR] using h
/-- The lower half, as a number of 64 bits. -/
def lowI (s : Int) : Int := IntKind.i64.wrap (loV s)
theorem low_in {s : Int} (h : inR s = true) : lowI s = s := by have := inR_of h; unfold lowI loV; simp only [IntKind.wrap_i64, wrap64]; omega
theorem low_bd (s : Int) : -9223372036854775808 ≤ lowI s ∧ lowI s ≤ 9223372036854775807 := by unfold lowI; simp only [IntKind.wrap_i64, wrap64]; omega
theorem low_lo (s : Int) : loV (lowI s) = loV s := by unfold lowI loV; simp only [IntKind.wrap_i64, wrap64]; omega
theorem low_out {s : Int} (h : inR s = false) (h1 : -170141183460469231731687303715884105728 ≤ s) (h2 : s < 170141183460469231731687303715884105728) : hiV s ≠ hiV (lowI s) := by
  have h3 : s < -9223372036854775808 ∨ 9223372036854775807 < s := by simp [inR] at h; omega
  unfold lowI loV hiV
  simp only [IntKind.wrap_i64, wrap64]
  omega

set_option maxHeartbeats 1000000 in
theorem short (s : Int) (w : World) (h1 : -170141183460469231731687303715884105728 ≤ s) (h2 : s < 170141183460469231731687303715884105728) :
    Calls Try.prog 44 #[.agg #[.int .u64 (hiV s), .int .u64 (loV s)]] w fun e w' => e = .returned (.tuple #[.int .i64 (smV s), .int .i64 (erV s)]) ∧ Below w.heap.size w w' := by
  obtain ⟨l0, l1⟩ := low_bd s
  have hll := Lib.hid (low_lo s)
  have elow : IntKind.i64.wrap (loV s) = lowI s := rfl
  obtain ⟨b0, b1⟩ := lo_bd s
  cases hi : inR s with
  | true =>
    have e2 := Lib.hid (smV_yes hi)
    have e3 := Lib.hid (erV_yes hi)
    have e1 := Lib.hid (low_in hi)
    have k1 : (hiV s = hiV (lowI s)) = True := by rw [e1.out]; simp
    have k2 : (loV s = loV (lowI s)) = True := by rw [e1.out]; simp
    clear hi h1 h2
    go_enter Try.func44, Try.ntmps44
    go_wp2
    have f0 : (w.alloc (.cells #[.int .u64 (hiV s), .int .u64 (loV s)] 39)).cell? ⟨w.heap.size, 0, none⟩ = some (.int .u64 (hiV s)) := by go_simp
    have f1 : (w.alloc (.cells #[.int .u64 (hiV s), .int .u64 (loV s)] 39)).cell? ⟨w.heap.size, 1, none⟩ = some (.int .u64 (loV s)) := by go_simp
    have PB : Below w.heap.size w (w.alloc (.cells #[.int .u64 (hiV s), .int .u64 (loV s)] 39)) := by go_grown
    generalize w.alloc (.cells #[.int .u64 (hiV s), .int .u64 (loV s)] 39) = W at *
    have hzW : w.heap.size ≤ W.heap.size := PB.size
    have PB2 : ∀ W1, Below W.heap.size W W1 → Below w.heap.size w W1 := fun W1 h => PB.trans (h.mono hzW)
    refine start_ (n := 6) (S := fun w' => w'.cell? ⟨w.heap.size, 0, none⟩ = some (.int .u64 (hiV s)) ∧ w'.cell? ⟨w.heap.size, 1, none⟩ = some (.int .u64 (loV s))) (ds := []) #[false, false, false, false, false, false] (by kernel_rfl) rfl rfl ⟨f0, f1⟩ (fun hHeld => ?_)
    refine pure_ (i := 1) (N := some 5) (v := ?_) (a' := ?_) #[false, true, false, false, false, false] rfl rfl (by kernel_rfl) (fun _ _ _ h => h) (Or.inl ⟨by rfl, ?_⟩) ?_ ?_
    rotate_left
    · intro w'
      go_simp
      with_reducible rfl
    rotate_left
    · simp only [Act.put, List.setIfInBounds_toArray, List.set_cons_zero, List.set_cons_succ, i64_w, i32_w]
      rfl
    refine take_ (i := 0) (N := some 4) (v := ?_) (a' := ?_) #[true, true, false, false, false, false] rfl rfl (by kernel_rfl) (fun _ _ _ h => h) (Or.inl ⟨by rfl, ?_⟩) hHeld ?_ ?_
    rotate_left
    · rintro w' ⟨s0, s1⟩
      go_simp
      with_reducible rfl
    rotate_left
    · simp only [Act.put, List.setIfInBounds_toArray, List.set_cons_zero, List.set_cons_succ, i64_w, i32_w]
      rfl
    refine take_ (i := 2) (N := some 6) (v := ?_) (a' := ?_) #[true, true, true, false, false, false] rfl rfl (by kernel_rfl) (fun _ _ _ h => h) (Or.inl ⟨by rfl, ?_⟩) hHeld ?_ ?_
    rotate_left
    · rintro w' ⟨s0, s1⟩
      go_simp
      with_reducible rfl
    rotate_left
    · simp only [Act.put, List.setIfInBounds_toArray, List.set_cons_zero, List.set_cons_succ, i64_w, i32_w]
      rfl
    refine pure_ (i := 3) (N := some 7) (v := ?_) (a' := ?_) #[true, true, true, true, false, false] rfl rfl (by kernel_rfl) (fun _ _ _ h => h) (Or.inl ⟨by rfl, ?_⟩) ?_ ?_
    rotate_left
    · intro w'
      go_simp
      with_reducible rfl
    rotate_left
    · simp only [Act.put, List.setIfInBounds_toArray, List.set_cons_zero, List.set_cons_succ, i64_w, i32_w]
      rfl
    refine one_ (i := 4) (N := some 8) #[true, true, true, true, true, false] rfl rfl (by kernel_rfl) (by decide) (fun K hK => ?_)
    refine goes_ Try.func42 (by kernel_rfl) rfl #[.int .i64 (lowI s)] (by rfl) rfl rfl (by simp only [List.map_toArray, List.map_cons, List.map_nil]; rfl) ?_
    with_reducible refine (of_ (lowI s) _ l0 l1).mono ?_
    rintro e W1 ⟨rfl, hB1⟩
    refine ⟨_, rfl, ?_⟩
    have P1 : Below W.heap.size W W1 := (Below.refl _ W).drew.trans hB1
    refine hK.out _ _ ⟨(pw_cell_below P1 f0), (pw_cell_below P1 f1)⟩ (fun hHeld => ?_)
    clear hK K
    refine norm_ (a' := ?_) ?_ ?_
    rotate_left
    · show Act.put _ (some 8) _ = _
      simp only [Act.put, List.setIfInBounds_toArray, List.set_cons_zero, List.set_cons_succ, i64_w, i32_w]
      rfl
    refine pure_ (i := 5) (N := some 9) (v := ?_) (a' := ?_) #[true, true, true, true, true, true] rfl rfl (by kernel_rfl) (fun _ _ _ h => h) (Or.inl ⟨by rfl, ?_⟩) ?_ ?_
    rotate_left
    · intro w'
      go_simp
      with_reducible rfl
    rotate_left
    · simp only [Act.put, List.setIfInBounds_toArray, List.set_cons_zero, List.set_cons_succ, i64_w, i32_w]
      rfl
    refine done_ (by kernel_rfl) ?_
    have j0 := (pw_cell_below P1 f0)
    have j1 := (pw_cell_below P1 f1)
    clear k1
    go_wp2
    go_ret2
    exact ⟨by rw [e2.out, e3.out, e1.out]; rfl, PB2 _ P1⟩

  | false =>
    have e2 := Lib.hid (smV_no hi)
    have e3 := Lib.hid (erV_no hi)
    have e1 := low_out hi h1 h2
    have k1 : (hiV s = hiV (lowI s)) = False := by simpa using e1
    clear e1
    clear hi h1 h2
    go_enter Try.func44, Try.ntmps44
    go_wp2
    have f0 : (w.alloc (.cells #[.int .u64 (hiV s), .int .u64 (loV s)] 39)).cell? ⟨w.heap.size, 0, none⟩ = some (.int .u64 (hiV s)) := by go_simp
    have f1 : (w.alloc (.cells #[.int .u64 (hiV s), .int .u64 (loV s)] 39)).cell? ⟨w.heap.size, 1, none⟩ = some (.int .u64 (loV s)) := by go_simp
    have PB : Below w.heap.size w (w.alloc (.cells #[.int .u64 (hiV s), .int .u64 (loV s)] 39)) := by go_grown
    generalize w.alloc (.cells #[.int .u64 (hiV s), .int .u64 (loV s)] 39) = W at *
    have hzW : w.heap.size ≤ W.heap.size := PB.size
    have PB2 : ∀ W1, Below W.heap.size W W1 → Below w.heap.size w W1 := fun W1 h => PB.trans (h.mono hzW)
    refine start_ (n := 6) (S := fun w' => w'.cell? ⟨w.heap.size, 0, none⟩ = some (.int .u64 (hiV s)) ∧ w'.cell? ⟨w.heap.size, 1, none⟩ = some (.int .u64 (loV s))) (ds := []) #[false, false, false, false, false, false] (by kernel_rfl) rfl rfl ⟨f0, f1⟩ (fun hHeld => ?_)
    refine pure_ (i := 1) (N := some 5) (v := ?_) (a' := ?_) #[false, true, false, false, false, false] rfl rfl (by kernel_rfl) (fun _ _ _ h => h) (Or.inl ⟨by rfl, ?_⟩) ?_ ?_
    rotate_left
    · intro w'
      go_simp
      with_reducible rfl
    rotate_left
    · simp only [Act.put, List.setIfInBounds_toArray, List.set_cons_zero, List.set_cons_succ, i64_w, i32_w]
      rfl
    refine take_ (i := 0) (N := some 4) (v := ?_) (a' := ?_) #[true, true, false, false, false, false] rfl rfl (by kernel_rfl) (fun _ _ _ h => h) (Or.inl ⟨by rfl, ?_⟩) hHeld ?_ ?_
    rotate_left
    · rintro w' ⟨s0, s1⟩
      go_simp
      with_reducible rfl
    rotate_left
    · simp only [Act.put, List.setIfInBounds_toArray, List.set_cons_zero, List.set_cons_succ, i64_w, i32_w]
      rfl
    refine take_ (i := 2) (N := some 6) (v := ?_) (a' := ?_) #[true, true, true, false, false, false] rfl rfl (by kernel_rfl) (fun _ _ _ h => h) (Or.inl ⟨by rfl, ?_⟩) hHeld ?_ ?_
    rotate_left
    · rintro w' ⟨s0, s1⟩
      go_simp
      with_reducible rfl
    rotate_left
    · simp only [Act.put, List.setIfInBounds_toArray, List.set_cons_zero, List.set_cons_succ, i64_w, i32_w]
      rfl
    refine pure_ (i := 3) (N := some 7) (v := ?_) (a' := ?_) #[true, true, true, true, false, false] rfl rfl (by kernel_rfl) (fun _ _ _ h => h) (Or.inl ⟨by rfl, ?_⟩) ?_ ?_
    rotate_left
    · intro w'
      go_simp
      with_reducible rfl
    rotate_left
    · simp only [Act.put, List.setIfInBounds_toArray, List.set_cons_zero, List.set_cons_succ, i64_w, i32_w]
      rfl
    refine one_ (i := 4) (N := some 8) #[true, true, true, true, true, false] rfl rfl (by kernel_rfl) (by decide) (fun K hK => ?_)
    refine goes_ Try.func42 (by kernel_rfl) rfl #[.int .i64 (lowI s)] (by rfl) rfl rfl (by simp only [List.map_toArray, List.map_cons, List.map_nil]; rfl) ?_
    with_reducible refine (of_ (lowI s) _ l0 l1).mono ?_
    rintro e W1 ⟨rfl, hB1⟩
    refine ⟨_, rfl, ?_⟩
    have P1 : Below W.heap.size W W1 := (Below.refl _ W).drew.trans hB1
    refine hK.out _ _ ⟨(pw_cell_below P1 f0), (pw_cell_below P1 f1)⟩ (fun hHeld => ?_)
    clear hK K
    refine norm_ (a' := ?_) ?_ ?_
    rotate_left
    · show Act.put _ (some 8) _ = _
      simp only [Act.put, List.setIfInBounds_toArray, List.set_cons_zero, List.set_cons_succ, i64_w, i32_w]
      rfl
    refine pure_ (i := 5) (N := some 9) (v := ?_) (a' := ?_) #[true, true, true, true, true, true] rfl rfl (by kernel_rfl) (fun _ _ _ h => h) (Or.inl ⟨by rfl, ?_⟩) ?_ ?_
    rotate_left
    · intro w'
      go_simp
      with_reducible rfl
    rotate_left
    · simp only [Act.put, List.setIfInBounds_toArray, List.set_cons_zero, List.set_cons_succ, i64_w, i32_w]
      rfl
    refine done_ (by kernel_rfl) ?_
    have j0 := (pw_cell_below P1 f0)
    have j1 := (pw_cell_below P1 f1)
    clear k1
    go_wp2
    go_ret2
    exact ⟨by rw [e2.out, e3.out]; rfl, PB2 _ P1⟩
end Go.Proofs.Ytmipifokpogpbaa.C2
