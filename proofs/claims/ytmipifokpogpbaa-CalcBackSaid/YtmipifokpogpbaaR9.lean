import Derived.Test.YtmipifokpogpbaaR8
import Derived.Test.YtmipifokpogpbaaWLast
set_option linter.unusedSimpArgs false
set_option linter.unusedVariables false
namespace Go.Proofs.Ytmipifokpogpbaa.R9
open Go.RowKit Go.Proofs.YtmipifokpogpbaaW.PrintWords Go.Proofs.YtmipifokpogpbaaW.PrintLast Go.Proofs.Ytmipifokpogpbaa.M Go.Proofs.Ytmipifokpogpbaa.R1 Go.Proofs.Ytmipifokpogpbaa.R2 Go.Proofs.Ytmipifokpogpbaa.R3 Go.Proofs.Ytmipifokpogpbaa.R4 Go.Proofs.Ytmipifokpogpbaa.R5 Go.Proofs.Ytmipifokpogpbaa.R6 Go.Proofs.Ytmipifokpogpbaa.R7 Go.Proofs.Ytmipifokpogpbaa.R8

theorem times (u v : Value) (x y : Int) (w : World) (h : Num w u x) (k : Num w v y) (hx : -10 ^ 1000000 < x) (hx' : x < 10 ^ 1000000) (hy : -10 ^ 1000000 < y) (hy' : y < 10 ^ 1000000) : Calls Try.prog 17 #[u, v] w (NumR w (x * y)) := by
  obtain ⟨na, A, c, xs, rfl, hr, h1, h2, h3⟩ := h
  obtain ⟨nb, B, d, ys, rfl, hs, k1, k2, k3⟩ := k
  exact times_ na nb A B c d xs ys x y w hr hs h3 k3 (h3.len hx hx') (k3.len hy hy')

/-- The product of the first k. -/
def prodK (l : List Int) : Nat → Int
  | 0 => 1
  | k + 1 => prodK l k * rd l k
theorem prodK_nat {l : List Int} (h : In64 l) (k : Nat) (hk : k ≤ l.length) : (prodK l k).natAbs ≤ 10 ^ (20 * k) := by
  induction k with
  | zero => simp [prodK]
  | succ k ih =>
    have h1 := ih (by omega)
    have h2 := h.get k (by omega)
    rw [prodK, Int.natAbs_mul, Nat.mul_add, Nat.pow_add]
    exact Nat.mul_le_mul h1 (by omega)
theorem ten_lt {m n : Nat} (h : m < n) : (10 : Int) ^ m < 10 ^ n := by
  have h1 := pow_le (show m + 1 ≤ n from h)
  rw [Int.pow_succ] at h1
  have := pow_pos m
  omega
theorem nat_ten {a : Int} {m n : Nat} (h : a.natAbs ≤ 10 ^ m) (hmn : m < n) : -10 ^ n < a ∧ a < 10 ^ n := by
  have h1 := ten_lt hmn
  have h2 : (a.natAbs : Int) ≤ 10 ^ m := by
    have := Int.ofNat_le.2 h
    rwa [Int.natCast_pow] at this
  generalize (10 : Int) ^ n = p at *
  generalize (10 : Int) ^ m = q at *
  omega
theorem prodK_ok {l : List Int} (h : In64 l) (k : Nat) (hk : k ≤ l.length) (h1 : k ≤ 1000) : -10 ^ 1000000 < prodK l k ∧ prodK l k < 10 ^ 1000000 := nat_ten (prodK_nat h k hk) (by omega)
theorem one_ok {x : Int} (h0 : -9223372036854775808 ≤ x) (h1 : x ≤ 9223372036854775807) : -10 ^ 1000000 < x ∧ x < 10 ^ 1000000 := big_ok (k := 1) (by omega) (by omega)

/-- Product's memory. -/
structure PSt (w wr : World) (g3 : Nat) (x : Int) : Prop where
  b2 : wr.heap[w.heap.size]? = some (.cells #[.bool false, .slice none 0 0] 29 (0, 0))
  b3 : NBox wr g3 x
  gt : w.heap.size < g3
  bel : Below w.heap.size w wr

set_option maxHeartbeats 2000000 in
theorem product (A : Option Addr) (n c : Nat) (l : List Int) (w : World) (hr : ReadsInt w .i64 A n l) (h64 : In64 l) (hn : n ≤ 1000) : Calls Try.prog 30 #[.slice A n c] w (NumR w (prodK l n)) := by
  have hl := Lib.hid hr.1
  go_enter Try.func30, Try.ntmps30
  have Q0 : Hid ((w.alloc (.cells #[.bool false, .slice none 0 0] 29)).heap[w.heap.size]? = some (.cells #[.bool false, .slice none 0 0] 29 (0, 0))) := get_new _ _ _ rfl
  go_wp2_with fail
  (with_reducible refine (of_ 1 _ (by omega) (by omega)).mono ?_)
  rintro e W0 ⟨_, rfl, ⟨n0, A0, c0, d0, rfl, hr0, l0, m0, hx0⟩, hB0⟩
  have z0 : w.heap.size + 1 ≤ W0.heap.size := by have := hB0.size; simpa using this
  have s0 : PSt w (W0.alloc (.cells #[.bool n0, .slice A0 d0.length c0] 29)) W0.heap.size 1 :=
    ⟨(get_old _ _ _ (by omega)).trans ((hB0.block _ (by simp)).trans Q0.out), ⟨n0, A0, c0, d0, get_new _ _ _ rfl, hr0.below (by go_grown), l0, m0, hx0⟩, by omega, Below.trans (by go_grown) (Below.trans (hB0.mono (by simp)) (by go_grown))⟩
  clear Q0 hr0 hx0
  go_wp2
  go_loopw [4] (fun i wr => ∃ k : Nat, i = .int .i64 k ∧ k ≤ n ∧ PSt w wr W0.heap.size (prodK l k)) (fun i _ => n - (intOf i).toNat)
  case atStart => exact ⟨0, rfl, by omega, s0⟩
  case round =>
    clear s0
    obtain ⟨k, rfl, hk, b2, b3, gt, bel⟩ := hrel
    generalize W0.heap.size = g3 at *
    obtain ⟨n5, A5, c5, d5, e5, hr5, l5, m5, hx5⟩ := b3
    have f0 : wr.cell? ⟨g3, 0, none⟩ = some (.bool n5) := (blk_cell e5 0).trans rfl
    have f1 : wr.cell? ⟨g3, 1, none⟩ = some (.slice A5 d5.length c5) := (blk_cell e5 1).trans rfl
    have hz := blk_lt e5
    have E5 := Lib.hid e5
    have B2 := Lib.hid b2
    clear e5 b2
    by_cases hlt : k < n
    · obtain ⟨ad, rfl, hcx⟩ := (hr.below bel).at_ k (by omega) (by omega)
      rw [Int.toNat_natCast] at hcx
      have q0 : (0 : Int) ≤ (k : Int) := by omega
      have q1 : (k : Int) < (n : Int) := by omega
      obtain ⟨x0, x1⟩ := h64.get k (by have := hl.out; omega)
      have hbd := prodK_ok h64 k (by have := hl.out; omega) (by omega)
      go_wp2
      refine start_ (n := 8) (S := fun w' => w'.cell? ⟨g3, 0, none⟩ = some (.bool n5) ∧ w'.cell? ⟨g3, 1, none⟩ = some (.slice A5 d5.length c5) ∧ w'.cell? (ad.add k) = some (.int .i64 (rd l k))) (ds := [7]) #[false, false, false, false, false, false, false, false] (by kernel_rfl) rfl rfl ⟨f0, f1, hcx⟩ (fun hHeld => ?_)
      refine pure_ (i := 1) (N := some 13) (v := ?_) (a' := ?_) #[false, true, false, false, false, false, false, false] rfl rfl (by kernel_rfl) (fun _ _ _ h => h) (Or.inl ⟨by rfl, ?_⟩) ?_ ?_
      rotate_left
      · intro w'
        go_simp
        with_reducible rfl
      rotate_left
      · simp only [Act.put, List.setIfInBounds_toArray, List.set_cons_zero, List.set_cons_succ, i64_w, i32_w]
        rfl
      refine pure_ (i := 2) (N := some 14) (v := ?_) (a' := ?_) #[false, true, true, false, false, false, false, false] rfl rfl (by kernel_rfl) (fun _ _ _ h => h) (Or.inl ⟨by rfl, ?_⟩) ?_ ?_
      rotate_left
      · intro w'
        go_simp
        with_reducible rfl
      rotate_left
      · simp only [Act.put, List.setIfInBounds_toArray, List.set_cons_zero, List.set_cons_succ, i64_w, i32_w]
        rfl
      refine pure_ (i := 3) (N := some 15) (v := ?_) (a' := ?_) #[false, true, true, true, false, false, false, false] rfl rfl (by kernel_rfl) (fun _ _ _ h => h) (Or.inl ⟨by rfl, ?_⟩) ?_ ?_
      rotate_left
      · intro w'
        go_simp
        with_reducible rfl
      rotate_left
      · simp only [Act.put, List.setIfInBounds_toArray, List.set_cons_zero, List.set_cons_succ, i64_w, i32_w]
        rfl
      refine take_ (i := 0) (N := some 12) (v := ?_) (a' := ?_) #[true, true, true, true, false, false, false, false] rfl rfl (by kernel_rfl) (fun _ _ _ h => h) (Or.inl ⟨by rfl, ?_⟩) hHeld ?_ ?_
      rotate_left
      · rintro w' ⟨s0, s1, s2⟩
        go_simp
        with_reducible rfl
      rotate_left
      · simp only [Act.put, List.setIfInBounds_toArray, List.set_cons_zero, List.set_cons_succ, i64_w, i32_w]
        rfl
      refine take_ (i := 4) (N := some 16) (v := ?_) (a' := ?_) #[true, true, true, true, true, false, false, false] rfl rfl (by kernel_rfl) (fun _ _ _ h => h) (Or.inl ⟨by rfl, ?_⟩) hHeld ?_ ?_
      rotate_left
      · rintro w' ⟨s0, s1, s2⟩
        go_simp
        with_reducible rfl
      rotate_left
      · simp only [Act.put, List.setIfInBounds_toArray, List.set_cons_zero, List.set_cons_succ, i64_w, i32_w]
        rfl
      refine one_ (i := 5) (N := some 17) #[true, true, true, true, true, true, false, false] rfl rfl (by kernel_rfl) (by decide) (fun K hK => ?_)
      refine goes_ Try.func15 (by kernel_rfl) rfl #[.int .i64 (rd l k)] (by rfl) rfl rfl (by simp only [List.map_toArray, List.map_cons, List.map_nil]; rfl) ?_
      with_reducible refine (of_ (rd l k) _ x0 x1).mono ?_
      rintro e W1 ⟨_, rfl, ⟨n1, A1, c1, d1, rfl, hr1, l1, m1, hx1⟩, hB1⟩
      refine ⟨_, rfl, ?_⟩
      have P1 : Below wr.heap.size wr W1 := (Below.refl _ wr).drew.trans hB1
      have z1 : wr.heap.size ≤ W1.heap.size := P1.size
      have V1 : Num W1 (.agg #[.bool n1, .slice A1 d1.length c1]) (rd l k) := ⟨n1, A1, c1, d1, rfl, hr1, l1, m1, hx1⟩
      have V5 : Num W1 (.agg #[.bool n5, .slice A5 d5.length c5]) (prodK l k) := ⟨n5, A5, c5, d5, rfl, hr5.below P1, l5, m5, hx5⟩
      refine hK.out _ _ ⟨((P1.cell (p := ⟨g3, 0, none⟩) hz).trans f0), ((P1.cell (p := ⟨g3, 1, none⟩) hz).trans f1), (pw_cell_below P1 hcx)⟩ (fun hHeld => ?_)
      clear hK K
      refine norm_ (a' := ?_) ?_ ?_
      rotate_left
      · show Act.put _ (some 17) _ = _
        simp only [Act.put, List.setIfInBounds_toArray, List.set_cons_zero, List.set_cons_succ, i64_w, i32_w]
        rfl
      refine one_ (i := 6) (N := some 18) #[true, true, true, true, true, true, true, false] rfl rfl (by kernel_rfl) (by decide) (fun K hK => ?_)
      refine goes_ Try.func17 (by kernel_rfl) rfl #[.agg #[.bool n5, .slice A5 d5.length c5], .agg #[.bool n1, .slice A1 d1.length c1]] (by rfl) rfl rfl (by simp only [List.map_toArray, List.map_cons, List.map_nil]; rfl) ?_
      with_reducible refine (times _ _ (prodK l k) (rd l k) _ V5 V1 hbd.1 hbd.2 (one_ok x0 x1).1 (one_ok x0 x1).2).mono ?_
      rintro e W2 ⟨_, rfl, ⟨n2, A2, c2, d2, rfl, hr2, l2, m2, hx2⟩, hB2⟩
      refine ⟨_, rfl, ?_⟩
      have P2 : Below wr.heap.size wr W2 := P1.trans (hB2.mono z1)
      refine hK.out _ _ ⟨((P2.cell (p := ⟨g3, 0, none⟩) hz).trans f0), ((P2.cell (p := ⟨g3, 1, none⟩) hz).trans f1), (pw_cell_below P2 hcx)⟩ (fun hHeld => ?_)
      clear hK K
      refine norm_ (a' := ?_) ?_ ?_
      rotate_left
      · show Act.put _ (some 18) _ = _
        simp only [Act.put, List.setIfInBounds_toArray, List.set_cons_zero, List.set_cons_succ, i64_w, i32_w]
        rfl
      refine last_ (i := 7) (N := none) #[true, true, true, true, true, true, true, true] rfl rfl (by kernel_rfl) (by decide) (fun K hK => ?_)
      have z2 := P2.size
      have e5' : W2.heap[g3]? = some (.cells #[.bool n5, .slice A5 d5.length c5] 29 (0, 0)) := (P2.block _ hz).trans E5.out
      have j0 : W2.cell? ⟨g3, 0, none⟩ = some (.bool n5) := (blk_cell e5' 0).trans rfl
      have j1 : W2.cell? ⟨g3, 1, none⟩ = some (.slice A5 d5.length c5) := (blk_cell e5' 1).trans rfl
      have j2 := blk_frozen e5'
      have J5 := Lib.hid e5'
      clear e5'
      refine skip_ (w1 := ?_) (by rfl) rfl ?_ ?_
      rotate_left
      · go_simp
        rfl
      refine hK.out _ _ ?_
      clear hK K
      refine done_ (by kernel_rfl) ?_
      have e2 : W2.heap[w.heap.size]? = some (.cells #[.bool false, .slice none 0 0] 29 (0, 0)) := (P2.block _ (by omega)).trans B2.out
      have hF : PSt w ((W2.setCell ⟨g3, 0, none⟩ (.bool n2)).setCell ⟨g3, 1, none⟩ (.slice A2 d2.length c2)) g3 (prodK l (k + 1)) :=
        ⟨blk_far (blk_far e2 (by simp; omega) _) (by simp; omega) _, nbox_set J5.out hr2 l2 m2 hx2, gt, ((bel.trans (P2.mono (by omega))).setCell (by simp; omega) _).setCell (by simp; omega) _⟩
      clear e2 j0 j1 j2 f0 f1
      go_wp2
      go_roundw
      case rel => exact ⟨k + 1, by go_num, by omega, hF⟩
      case measure => simp [intOf] <;> omega
    · obtain rfl : k = n := by omega
      have f2 : wr.cell? ⟨w.heap.size, 0, none⟩ = some (.bool false) := (blk_cell B2.out 0).trans rfl
      have f3 : wr.cell? ⟨w.heap.size, 1, none⟩ = some (.slice none 0 0) := (blk_cell B2.out 1).trans rfl
      have f4 := blk_frozen B2.out
      go_wp2
      exact bodyPost_num rfl (num_set (b0 := false) B2.out hr5 l5 m5 hx5 bel (Nat.le_refl _) rfl _ rfl)
end Go.Proofs.Ytmipifokpogpbaa.R9
