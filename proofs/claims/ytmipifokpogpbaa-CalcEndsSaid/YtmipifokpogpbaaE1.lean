import Derived.Test.YtmipifokpogpbaaC4
set_option linter.unusedSimpArgs false
set_option linter.unusedVariables false
namespace Go.Proofs.Ytmipifokpogpbaa.E1
open Go.RowKit Go.Proofs.YtmipifokpogpbaaW.PrintWords Go.Proofs.YtmipifokpogpbaaW.PrintLast Go.Proofs.Ytmipifokpogpbaa.C1

def minI (a : Int) (l : List Int) : Nat → Int
  | 0 => a
  | k + 1 => min (minI a l k) (rd l k)
def maxI (a : Int) (l : List Int) : Nat → Int
  | 0 => a
  | k + 1 => max (maxI a l k) (rd l k)
/-- It is the first number, or one of the list's. -/
def sB (v a : Int) (l : List Int) : Nat → Bool
  | 0 => v == a
  | k + 1 => sB v a l k || (v == rd l k)
theorem sB_at {v a : Int} {l : List Int} : ∀ {n k : Nat}, k < n → v = rd l k → sB v a l n = true
  | n + 1, k, h, e => by
    by_cases hk : k = n
    · subst hk; simp [sB, e]
    · simp [sB, sB_at (n := n) (k := k) (by omega) e]
theorem sB_a {v a : Int} {l : List Int} : ∀ n : Nat, v = a → sB v a l n = true
  | 0, e => by simp [sB, e]
  | n + 1, e => by simp [sB, sB_a n e]
theorem min_le (a : Int) (l : List Int) : ∀ n : Nat, minI a l n ≤ a ∧ ∀ k < n, minI a l n ≤ rd l k
  | 0 => ⟨Int.le_refl _, fun _ h => by omega⟩
  | n + 1 => by
    obtain ⟨h1, h2⟩ := min_le a l n
    refine ⟨by simp only [minI]; omega, fun k hk => ?_⟩
    by_cases e : k = n
    · subst e; simp only [minI]; omega
    · have := h2 k (by omega); simp only [minI]; omega
theorem le_max (a : Int) (l : List Int) : ∀ n : Nat, a ≤ maxI a l n ∧ ∀ k < n, rd l k ≤ maxI a l n
  | 0 => ⟨Int.le_refl _, fun _ h => by omega⟩
  | n + 1 => by
    obtain ⟨h1, h2⟩ := le_max a l n
    refine ⟨by simp only [maxI]; omega, fun k hk => ?_⟩
    by_cases e : k = n
    · subst e; simp only [maxI]; omega
    · have := h2 k (by omega); simp only [maxI]; omega
theorem min_is (a : Int) (l : List Int) : ∀ n : Nat, minI a l n = a ∨ ∃ k < n, minI a l n = rd l k
  | 0 => .inl rfl
  | n + 1 => by
    rcases min_is a l n with h | ⟨k, hk, h⟩
    · by_cases e : minI a l n ≤ rd l n
      · left; simp only [minI]; omega
      · right; exact ⟨n, by omega, by simp only [minI]; omega⟩
    · by_cases e : minI a l n ≤ rd l n
      · right; exact ⟨k, by omega, by simp only [minI]; omega⟩
      · right; exact ⟨n, by omega, by simp only [minI]; omega⟩
theorem max_is (a : Int) (l : List Int) : ∀ n : Nat, maxI a l n = a ∨ ∃ k < n, maxI a l n = rd l k
  | 0 => .inl rfl
  | n + 1 => by
    rcases max_is a l n with h | ⟨k, hk, h⟩
    · by_cases e : rd l n ≤ maxI a l n
      · left; simp only [maxI]; omega
      · right; exact ⟨n, by omega, by simp only [maxI]; omega⟩
    · by_cases e : rd l n ≤ maxI a l n
      · right; exact ⟨k, by omega, by simp only [maxI]; omega⟩
      · right; exact ⟨n, by omega, by simp only [maxI]; omega⟩
theorem min_sB (a : Int) (l : List Int) (n : Nat) : sB (minI a l n) a l n = true := by
  rcases min_is a l n with h | ⟨k, hk, h⟩
  · exact sB_a n h
  · exact sB_at hk h
theorem max_sB (a : Int) (l : List Int) (n : Nat) : sB (maxI a l n) a l n = true := by
  rcases max_is a l n with h | ⟨k, hk, h⟩
  · exact sB_a n h
  · exact sB_at hk h

set_option maxHeartbeats 1000000 in
theorem least (a : Int) (A : Option Addr) (m c : Nat) (l : List Int) (w : World) (hr : ReadsInt w .i64 A m l) (hm : m ≤ 1000000000000000) :
    Calls Try.prog 24 #[.int .i64 a, .slice A m c] w fun e w' => e = .returned (.int .i64 (minI a l m)) ∧ Below w.heap.size w w' := by
  go_enter Try.func24, Try.ntmps24
  go_wp2
  go_loopw [9, 0] (fun i r wr => ∃ k : Nat, i = .int .i64 k ∧ k ≤ m ∧ r = .int .i64 (minI a l k) ∧ ∃ q, wr = w.drewN q) (fun i _ _ => m - (intOf i).toNat)
  case atStart => exact ⟨0, rfl, by omega, rfl, 0, rfl⟩
  case round =>
    obtain ⟨k, rfl, hk, rfl, q, rfl⟩ := hrel
    by_cases hlt : k < m
    · obtain ⟨ad, rfl, hcx⟩ := hr.at_ k (by omega) (by omega)
      rw [Int.toNat_natCast] at hcx
      have q0 : (0 : Int) ≤ (k : Int) := by omega
      have q1 : (k : Int) < (m : Int) := by omega
      go_wp2
      go_roundw
      case rel => exact ⟨k + 1, by go_num, by omega, by first | rfl | (simp only [minI]; go_num), _, rfl⟩
      case measure => simp [intOf] <;> omega
    · obtain rfl : k = m := by omega
      go_wp2
      go_ret
      exact ⟨rfl, pw_below_drewN (Below.refl _ _) _⟩
set_option maxHeartbeats 1000000 in
theorem most (a : Int) (A : Option Addr) (m c : Nat) (l : List Int) (w : World) (hr : ReadsInt w .i64 A m l) (hm : m ≤ 1000000000000000) :
    Calls Try.prog 25 #[.int .i64 a, .slice A m c] w fun e w' => e = .returned (.int .i64 (maxI a l m)) ∧ Below w.heap.size w w' := by
  go_enter Try.func25, Try.ntmps25
  go_wp2
  go_loopw [9, 0] (fun i r wr => ∃ k : Nat, i = .int .i64 k ∧ k ≤ m ∧ r = .int .i64 (maxI a l k) ∧ ∃ q, wr = w.drewN q) (fun i _ _ => m - (intOf i).toNat)
  case atStart => exact ⟨0, rfl, by omega, rfl, 0, rfl⟩
  case round =>
    obtain ⟨k, rfl, hk, rfl, q, rfl⟩ := hrel
    by_cases hlt : k < m
    · obtain ⟨ad, rfl, hcx⟩ := hr.at_ k (by omega) (by omega)
      rw [Int.toNat_natCast] at hcx
      have q0 : (0 : Int) ≤ (k : Int) := by omega
      have q1 : (k : Int) < (m : Int) := by omega
      go_wp2
      go_roundw
      case rel => exact ⟨k + 1, by go_num, by omega, by first | rfl | (simp only [maxI]; go_num), _, rfl⟩
      case measure => simp [intOf] <;> omega
    · obtain rfl : k = m := by omega
      go_wp2
      go_ret
      exact ⟨rfl, pw_below_drewN (Below.refl _ _) _⟩

set_option maxHeartbeats 4000000 in
theorem law (a : Int) (A : Option Addr) (m c : Nat) (l : List Int) (w : World) (hr : ReadsInt w .i64 A m l) (hm : m ≤ 1000000000000000) :
    Calls Try.prog 5 #[.int .i64 a, .slice A m c] w fun e w' => e = .returned (.bool true) ∧ Below w.heap.size w w' := by
  obtain ⟨x1, x2⟩ := min_le a l m
  obtain ⟨y1, y2⟩ := le_max a l m
  have x3 := Lib.hid (min_sB a l m)
  have y3 := Lib.hid (max_sB a l m)
  go_enter Try.func5, Try.ntmps5
  by_cases hbig : 100 < m
  · go_wp2_with (go_at_call 12; (with_reducible refine (C4.awake _).mono ?_); rintro e W1 ⟨rfl, hB⟩)
    go_ret
    exact ⟨rfl, hB⟩
  go_wp2_with fail
  (with_reducible refine (least a A m c l _ hr hm).mono ?_)
  rintro e W1 ⟨rfl, hB1⟩
  have hr := hr.below hB1
  go_wp2_with fail
  (with_reducible refine (most a A m c l _ hr hm).mono ?_)
  rintro e W2 ⟨rfl, hB2⟩
  have hr := hr.below hB2
  have hB : Below w.heap.size w W2 := hB1.trans (hB2.mono hB1.size)
  clear hB1 hB2
  generalize minI a l m = lo at *
  generalize maxI a l m = hi at *
  go_wp2
  go_loopw [9, 7, 8] (fun i s t wr => ∃ k : Nat, i = .int .i64 k ∧ k ≤ m ∧ s = .bool (sB lo a l k) ∧ t = .bool (sB hi a l k) ∧ ∃ q, wr = W2.drewN q) (fun i _ _ _ => m - (intOf i).toNat)
  case atStart => exact ⟨0, rfl, by omega, rfl, rfl, 0, rfl⟩
  case round =>
    obtain ⟨k, rfl, hk, rfl, rfl, q, rfl⟩ := hrel
    by_cases hlt : k < m
    · obtain ⟨ad, rfl, hcx⟩ := hr.at_ k (by omega) (by omega)
      rw [Int.toNat_natCast] at hcx
      have q0 : (0 : Int) ≤ (k : Int) := by omega
      have q1 : (k : Int) < (m : Int) := by omega
      have z1 := x2 k hlt
      have z2 := y2 k hlt
      have g1 := Lib.hid (show sB lo a l (k + 1) = (sB lo a l k || (lo == rd l k)) from rfl)
      have g2 := Lib.hid (show sB hi a l (k + 1) = (sB hi a l k || (hi == rd l k)) from rfl)
      generalize sB lo a l k = b1 at *
      generalize sB hi a l k = b2 at *
      cases b1 <;> cases b2
      all_goals
        go_wp2
        go_roundw
        case rel => exact ⟨k + 1, by go_num, by omega, by rw [g1.out]; simp, by rw [g2.out]; simp, _, rfl⟩
        case measure => simp [intOf] <;> omega
    · obtain rfl : k = m := by omega
      rw [x3.out, y3.out]
      go_wp2_with (go_at_call 12; (with_reducible refine (C4.awake _).mono ?_); rintro e W3 ⟨rfl, hB3⟩)
      go_ret
      exact ⟨rfl, (pw_below_drewN hB _).trans (hB3.mono (pw_below_drewN hB _).size)⟩
end Go.Proofs.Ytmipifokpogpbaa.E1
