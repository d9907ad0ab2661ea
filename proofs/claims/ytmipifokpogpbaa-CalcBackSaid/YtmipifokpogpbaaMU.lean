import Derived.Test.YtmipifokpogpbaaC4
import Derived.Lib.Mul64
import Derived.Laws.Bits64b
set_option linter.unusedSimpArgs false
set_option linter.unusedVariables false
namespace Go.Proofs.Ytmipifokpogpbaa.MU
open Go.RowKit Go.Proofs.YtmipifokpogpbaaW.PrintWords Go.Proofs.YtmipifokpogpbaaW.PrintLast Go.Proofs.Ytmipifokpogpbaa.C1 Go.Proofs.Ytmipifokpogpbaa.C2 Go.Proofs.Ytmipifokpogpbaa.C3

theorem maskN (a : Nat) (ha : a < 18446744073709551616) : bits .and .u64 (a : Int) 4294967295 = ((a % 4294967296 : Nat) : Int) := by
  have h := bits_and_u64_nat a 4294967295 ha (by omega)
  rw [show a &&& 4294967295 = a % 4294967296 from Nat.and_two_pow_sub_one_eq_mod a 32] at h
  exact h
theorem divN (a : Nat) : (a : Int) / 4294967296 = ((a / 4294967296 : Nat) : Int) := by omega
theorem mulN (a b : Nat) : (a : Int) * (b : Int) = ((a * b : Nat) : Int) := (Int.natCast_mul a b).symm
theorem addN (a b : Nat) : (a : Int) + (b : Int) = ((a + b : Nat) : Int) := (Int.natCast_add a b).symm
theorem wrapN (a : Nat) (ha : a < 18446744073709551616) : IntKind.u64.wrap (a : Int) = (a : Int) := by rw [IntKind.wrap_u64]; omega
theorem wrapM (a : Nat) : IntKind.u64.wrap (a : Int) = ((a % 18446744073709551616 : Nat) : Int) := by rw [IntKind.wrap_u64]; omega

set_option maxHeartbeats 1000000 in
/-- bits.Mul64. -/
theorem mul64 (x y : Nat) (hx : x < 18446744073709551616) (hy : y < 18446744073709551616) (w : World) :
    Calls Try.prog 45 #[.int .u64 x, .int .u64 y] w fun e w' => e = .returned (.tuple #[.int .u64 ((x * y / 18446744073709551616 : Nat) : Int), .int .u64 ((x * y % 18446744073709551616 : Nat) : Int)]) ∧ w = w' := by
  obtain ⟨bd, bt, bw, hhi⟩ := Lib.mul64_hi x y hx hy
  have ba := Lib.half_mul_le (a := x / 4294967296) (b := y / 4294967296) (by omega) (by omega)
  have bb := Lib.half_mul_le (a := x / 4294967296) (b := y % 4294967296) (by omega) (by omega)
  have bc := Lib.half_mul_le (a := x % 4294967296) (b := y / 4294967296) (by omega) (by omega)
  have ba' : x / 4294967296 * (y / 4294967296) < 18446744073709551616 := by omega
  have bb' : x / 4294967296 * (y % 4294967296) < 18446744073709551616 := by omega
  have bc' : x % 4294967296 * (y / 4294967296) < 18446744073709551616 := by omega
  have bh1 : x / 4294967296 * (y / 4294967296) + (x / 4294967296 * (y % 4294967296) + x % 4294967296 * (y % 4294967296) / 4294967296) / 4294967296 < 18446744073709551616 := by omega
  have bh : x / 4294967296 * (y / 4294967296) + (x / 4294967296 * (y % 4294967296) + x % 4294967296 * (y % 4294967296) / 4294967296) / 4294967296 + ((x / 4294967296 * (y % 4294967296) + x % 4294967296 * (y % 4294967296) / 4294967296) % 4294967296 + x % 4294967296 * (y / 4294967296)) / 4294967296 < 18446744073709551616 := by omega
  go_enter Try.func45, Try.ntmps45
  go_wp2
  simp only [maskN x hx, maskN y hy, divN, mulN, addN, wrapN _ bd, wrapN _ bb', wrapN _ bt, maskN _ bt, wrapN _ bc', wrapN _ bw, wrapN _ ba', wrapN _ bh1, wrapN _ bh, wrapM (x * y)]
  rw [hhi]
  go_ret2
  exact ⟨rfl, rfl⟩

set_option maxHeartbeats 400000 in
theorem size (x : Int) (w : World) (x0 : -9223372036854775808 ≤ x) (x1 : x ≤ 9223372036854775807) : Calls Try.prog 46 #[.int .i64 x] w fun e w' => e = .returned (.int .u64 (x.natAbs : Int)) ∧ w = w' := by
  by_cases h : x < 0
  · have e : IntKind.u64.wrap (-IntKind.u64.wrap x) = (x.natAbs : Int) := by simp only [IntKind.wrap_u64]; omega
    go_enter Try.func46, Try.ntmps46
    go_wp2
    try rw [e]
    go_ret
    exact ⟨rfl, rfl⟩
  · have e : IntKind.u64.wrap x = (x.natAbs : Int) := by simp only [IntKind.wrap_u64]; omega
    go_enter Try.func46, Try.ntmps46
    go_wp2
    try rw [e]
    go_ret
    exact ⟨rfl, rfl⟩

/-- The number of a sign and a size. -/
def sgV (n : Bool) (u : Nat) : Int := if n then -(u : Int) else u
set_option maxHeartbeats 1000000 in
theorem signed (n : Bool) (u : Nat) (hu : u < 18446744073709551616) (w : World) : Calls Try.prog 47 #[.bool n, .int .u64 u] w fun e w' => e = .returned (.tuple #[.int .i64 (smV (sgV n u)), .int .i64 (erV (sgV n u))]) ∧ w = w' := by
  cases n with
  | true =>
    by_cases h : u ≤ 9223372036854775808
    · have hi : inR (sgV true u) = true := by simp [inR, sgV]; omega
      have e1 := Lib.hid (smV_yes hi)
      have e2 := Lib.hid (erV_yes hi)
      have e3 : wrap64 (-wrap64 (u : Int)) = sgV true u := by simp only [wrap64, sgV]; simp; omega
      clear hi
      go_enter Try.func47, Try.ntmps47
      go_wp2
      go_ret2
      rw [e1.out, e2.out, e3]
      exact ⟨rfl, rfl⟩
    · have hi : inR (sgV true u) = false := by simp [inR, sgV]; omega
      have e1 := Lib.hid (smV_no hi)
      have e2 := Lib.hid (erV_no hi)
      clear hi
      go_enter Try.func47, Try.ntmps47
      go_wp2
      go_ret2
      rw [e1.out, e2.out]
      exact ⟨rfl, rfl⟩
  | false =>
    by_cases h : u ≤ 9223372036854775807
    · have hi : inR (sgV false u) = true := by simp [inR, sgV]; omega
      have e1 := Lib.hid (smV_yes hi)
      have e2 := Lib.hid (erV_yes hi)
      have e3 : IntKind.i64.wrap (u : Int) = sgV false u := by simp only [IntKind.wrap_i64, wrap64, sgV]; simp; omega
      clear hi
      go_enter Try.func47, Try.ntmps47
      go_wp2
      go_ret2
      rw [e1.out, e2.out]
      first | rw [e3] | skip
      exact ⟨rfl, rfl⟩
    · have hi : inR (sgV false u) = false := by simp [inR, sgV]; omega
      have e1 := Lib.hid (smV_no hi)
      have e2 := Lib.hid (erV_no hi)
      clear hi
      go_enter Try.func47, Try.ntmps47
      go_wp2
      go_ret2
      rw [e1.out, e2.out]
      exact ⟨rfl, rfl⟩

def prodI (l : List Int) : Nat → Int
  | 0 => 1
  | k + 1 => prodI l k * rd l k
def ouV (l : List Int) : Nat → Nat
  | 0 => 1
  | k + 1 => ouV l k * (rd l k).natAbs % 18446744073709551616
def ovB (l : List Int) : Nat → Bool
  | 0 => false
  | k + 1 => ovB l k || ((ouV l k * (rd l k).natAbs / 18446744073709551616 : Nat) : Int) != 0
def ngB (l : List Int) : Nat → Bool
  | 0 => false
  | k + 1 => ngB l k != decide (rd l k < 0)
theorem ou_lt (l : List Int) (k : Nat) : ouV l k < 18446744073709551616 := by
  cases k with
  | zero => simp [ouV]
  | succ k => exact Nat.mod_lt _ (by omega)
/-- As long as no nought has come. -/
structure Inv (l : List Int) (k : Nat) : Prop where
  ne : prodI l k ≠ 0
  ng : ngB l k = decide (prodI l k < 0)
  low : ovB l k = false → ouV l k = (prodI l k).natAbs
  big : ovB l k = true → 18446744073709551616 ≤ (prodI l k).natAbs
theorem Inv.zero (l : List Int) : Inv l 0 := ⟨by simp [prodI], by simp [ngB, prodI], by simp [ouV, prodI], by simp [ovB]⟩
theorem sign_mul {a b : Int} (ha : a ≠ 0) (hb : b ≠ 0) : decide (a * b < 0) = (decide (a < 0) != decide (b < 0)) := by
  rcases Int.lt_or_gt_of_ne ha with h | h <;> rcases Int.lt_or_gt_of_ne hb with h' | h'
  · have := Int.mul_pos_of_neg_of_neg h h'; simp [h, h']; omega
  · have := Int.mul_neg_of_neg_of_pos h h'; simp [h, this]; omega
  · have := Int.mul_neg_of_pos_of_neg h h'; simp [h', this]; omega
  · have := Int.mul_pos h h'; have e1 : ¬ a < 0 := by omega
    have e2 : ¬ b < 0 := by omega
    have e3 : ¬ a * b < 0 := by omega
    simp [e1, e2, e3]
theorem Inv.step {l : List Int} {k : Nat} (h : Inv l k) (hx : rd l k ≠ 0) : Inv l (k + 1) := by
  refine ⟨by simp only [prodI]; exact Int.mul_ne_zero h.ne hx, ?_, ?_, ?_⟩
  · exact (congrArg (fun b => b != decide (rd l k < 0)) h.ng).trans (sign_mul h.ne hx).symm
  · intro ho
    simp only [ovB, Bool.or_eq_false_iff] at ho
    have h1 := h.low ho.1
    have h2 := ho.2
    simp only [bne_eq_false_iff_eq] at h2
    simp only [ouV, prodI, Int.natAbs_mul]
    rw [← h1]; generalize ouV l k * (rd l k).natAbs = P at *; omega
  · intro ho
    simp only [prodI, Int.natAbs_mul]
    have hx1 : 1 ≤ (rd l k).natAbs := by omega
    cases hov : ovB l k with
    | true => exact Nat.le_trans (h.big hov) (Nat.le_mul_of_pos_right _ hx1)
    | false =>
      have h1 := h.low hov
      simp only [ovB, hov, Bool.false_or, bne_iff_ne] at ho
      rw [← h1]; generalize ouV l k * (rd l k).natAbs = P at *; omega
theorem Inv.over {l : List Int} {k : Nat} (h : Inv l k) (ho : ovB l k = true) : smV (prodI l k) = 0 ∧ erV (prodI l k) = 2 := by
  have := h.big ho
  have hi : inR (prodI l k) = false := by simp [inR]; omega
  exact ⟨smV_no hi, erV_no hi⟩
theorem Inv.fits {l : List Int} {k : Nat} (h : Inv l k) (ho : ovB l k = false) : sgV (ngB l k) (ouV l k) = prodI l k := by
  have h1 := h.low ho
  rw [h.ng, h1]; unfold sgV
  by_cases h2 : prodI l k < 0 <;> simp [h2] <;> omega
theorem prod_zero {l : List Int} {k : Nat} (h : rd l k = 0) : ∀ {n : Nat}, k < n → prodI l n = 0
  | n + 1, hk => by
    by_cases e : k = n
    · subst e; simp [prodI, h]
    · simp [prodI, prod_zero h (n := n) (by omega)]
theorem sm_zero : smV 0 = 0 := by decide
theorem er_zero : erV 0 = 0 := by decide

set_option maxHeartbeats 2000000 in
/-- Mul tells the product. -/
theorem mul (A : Option Addr) (m c : Nat) (l : List Int) (w : World) (hr : ReadsInt w .i64 A m l) (h64 : In64 l) (hm : m ≤ 1000000000000000) :
    Calls Try.prog 27 #[.slice A m c] w (NumA w (prodI l m)) := by
  have hl := Lib.hid hr.1
  go_enter Try.func27, Try.ntmps27
  go_wp2
  go_loopw [13, 4, 5, 6] (fun i s u o wr => ∃ k : Nat, i = .int .i64 k ∧ k ≤ m ∧ Inv l k ∧ s = .bool (ngB l k) ∧ u = .int .u64 (ouV l k : Nat) ∧ o = .bool (ovB l k) ∧ ∃ q, wr = w.drewN q) (fun i _ _ _ _ => m - (intOf i).toNat)
  case atStart => exact ⟨0, rfl, by omega, Inv.zero l, rfl, rfl, rfl, 0, rfl⟩
  case round =>
    obtain ⟨k, rfl, hk, hI, rfl, rfl, rfl, q, rfl⟩ := hrel
    by_cases hlt : k < m
    · obtain ⟨ad, rfl, hcx⟩ := hr.at_ k (by omega) (by omega)
      rw [Int.toNat_natCast] at hcx
      have q0 : (0 : Int) ≤ (k : Int) := by omega
      have q1 : (k : Int) < (m : Int) := by omega
      obtain ⟨x0, x1⟩ := h64.get k (by have := hl.out; omega)
      by_cases hz : rd l k = 0
      · have hp := prod_zero hz hlt
        go_wp2
        go_returns
        exact ⟨by rw [hp, sm_zero, er_zero]; rfl, pw_below_drewN (Below.refl _ _) _⟩
      · have hI2 := hI.step hz
        have hI3 := Lib.hid hI
        have g1 := Lib.hid (show ngB l (k + 1) = (ngB l k != decide (rd l k < 0)) from rfl)
        have g2 := Lib.hid (show ouV l (k + 1) = ouV l k * (rd l k).natAbs % 18446744073709551616 from rfl)
        have g3 := Lib.hid (show ovB l (k + 1) = (ovB l k || ((ouV l k * (rd l k).natAbs / 18446744073709551616 : Nat) : Int) != 0) from rfl)
        have u1 := ou_lt l k
        have u2 : (rd l k).natAbs < 18446744073709551616 := by omega
        generalize hO : ovB l k = ob at *
        have hO := Lib.hid hO
        clear hI hI2
        have hI2 := Lib.hid (hI3.out.step hz)
        cases ob
        all_goals
          go_wp2_with fail
          (with_reducible refine (size _ _ x0 x1).mono ?_)
          rintro e W1 ⟨rfl, rfl⟩
          go_wp2_with fail
          (with_reducible refine (mul64 _ _ u1 u2 _).mono ?_)
          rintro e W1 ⟨rfl, rfl⟩
          go_wp2
          go_roundw
          case rel => exact ⟨k + 1, by go_num, by omega, hI2.out, by rw [g1.out]; rfl, by rw [g2.out]; first | rfl | (push_cast; rfl), by rw [g3.out]; first | rfl | (simp; done) | (push_cast; simp; done), _, rfl⟩
          case measure => simp [intOf] <;> omega
    · obtain rfl : k = m := by omega
      have u1 := ou_lt l k
      cases ho : ovB l k with
      | true =>
        obtain ⟨e1, e2⟩ := hI.over ho
        have e1 := Lib.hid e1
        have e2 := Lib.hid e2
        go_wp2
        go_returns
        exact ⟨by rw [e1.out, e2.out]; rfl, pw_below_drewN (Below.refl _ _) _⟩
      | false =>
        have e1 := Lib.hid (hI.fits ho)
        go_wp2_with (go_at_call 47; (with_reducible refine (signed _ _ u1 _).mono ?_); rintro e W2 ⟨rfl, rfl⟩)
        go_ret2
        exact ⟨by rw [e1.out]; rfl, pw_below_drewN (Below.refl _ _) _⟩
end Go.Proofs.Ytmipifokpogpbaa.MU
