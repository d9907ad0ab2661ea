import Derived.Test.YtegkclehijdbiaaV1
set_option linter.unusedSimpArgs false
set_option linter.unusedVariables false
namespace Go.Proofs.Ytegkclehijdbiaa.V2
open Go.RowKit Go.Proofs.YtegkclehijdbiaaW.PrintWords Go.Proofs.YtegkclehijdbiaaW.PrintLast Go.Proofs.Ytegkclehijdbiaa.V1

def allV (l : List Vl) : Nat → Bool
  | 0 => true
  | k + 1 => allV l k && okV (el l k)
theorem allV_no {l : List Vl} {k : Nat} (h : okV (el l k) = false) : ∀ {n : Nat}, k < n → allV l n = false
  | n + 1, hk => by
    by_cases e : k = n
    · subst e; simp [allV, h]
    · simp [allV, allV_no h (n := n) (by omega)]
theorem allV_at {l : List Vl} {n : Nat} (h : allV l n = true) {k : Nat} (hk : k < n) : okV (el l k) = true := by
  cases e : okV (el l k) with
  | true => rfl
  | false => rw [allV_no e hk] at h; cases h

set_option maxHeartbeats 1000000 in
theorem all46 (A : Option Addr) (n c : Nat) (l : List Vl) (w : World) (hr : RdV w A n l) : Calls Try.prog 46 #[.slice A n c] w fun e w' => e = .returned (.bool (allV l n)) ∧ Below w.heap.size w w' := by
  have hn := hr.2.1
  go_enter Try.func46, Try.ntmps46
  go_wp2
  go_loopw [3] (fun i wr => ∃ k : Nat, i = .int .i64 k ∧ k ≤ n ∧ Hid (allV l k = true) ∧ Below w.heap.size w wr) (fun i _ => n - (intOf i).toNat)
  case atStart => exact ⟨0, rfl, by omega, rfl, Below.refl _ _⟩
  case round =>
    obtain ⟨k, rfl, hk, hok, bel⟩ := hrel
    by_cases hlt : k < n
    · obtain ⟨g, o, rfl, ⟨c0, c1, c2, hf⟩, q2⟩ := (rdV_below hr bel).at_ hlt
      have q0 : (0 : Int) ≤ (k : Int) := by omega
      have q1 : (k : Int) < (n : Int) := by omega
      have hf := Lib.hid hf
      clear hr
      go_wp2_with fail
      (with_reducible refine (right75 (el l k) _ hf.out).mono ?_)
      rintro e W1 ⟨rfl, hB⟩
      have P := bel.trans (hB.mono bel.size)
      cases ho : okV (el l k) with
      | true =>
        have hok2 : Hid (allV l (k + 1) = true) := by show _ = _; simp [allV, hok.out, ho]
        clear c0 c1 c2
        go_wp2
        go_roundw
        case rel => exact ⟨k + 1, by go_num, by omega, hok2, P⟩
        case measure => simp [intOf] <;> omega
      | false =>
        have hno := Lib.hid (allV_no ho hlt)
        clear c0 c1 c2
        go_wp2
        go_ret
        exact ⟨by rw [hno.out]; rfl, P⟩
    · obtain rfl : k = n := by omega
      go_wp2
      go_ret
      exact ⟨by rw [hok.out]; rfl, bel⟩

/-- Where the first wrong value is, or -1. -/
def IdxR (w : World) (b : Bool) (n : Nat) (e : Ending) (w' : World) : Prop := ∃ r : Int, e = .returned (.int .i64 r) ∧ (decide (0 ≤ r)) = !b ∧ -1 ≤ r ∧ r ≤ n ∧ Below w.heap.size w w'
set_option maxHeartbeats 1000000 in
theorem idx111 (A : Option Addr) (n c : Nat) (l : List Vl) (w : World) (hr : RdV w A n l) : Calls Try.prog 111 #[.slice A n c, .func (.func 106) #[] #[]] w (IdxR w (allV l n) n) := by
  have hn := hr.2.1
  go_enter Try.func111, Try.ntmps111
  go_wp2
  go_loopw [8] (fun i wr => ∃ k : Nat, i = .int .i64 k ∧ k ≤ n ∧ Hid (allV l k = true) ∧ Below w.heap.size w wr) (fun i _ => n - (intOf i).toNat)
  case atStart => exact ⟨0, rfl, by omega, rfl, Below.refl _ _⟩
  case round =>
    obtain ⟨k, rfl, hk, hok, bel⟩ := hrel
    by_cases hlt : k < n
    · obtain ⟨g, o, rfl, ⟨c0, c1, c2, hf⟩, q2⟩ := (rdV_below hr bel).at_ hlt
      have q0 : (0 : Int) ≤ (k : Int) := by omega
      have q1 : (k : Int) < (n : Int) := by omega
      have hf := Lib.hid hf
      clear hr
      go_wp2_with fail
      (with_reducible refine (wrong106 (el l k) _ hf.out).mono ?_)
      rintro e W1 ⟨rfl, hB⟩
      have P := bel.trans (hB.mono bel.size)
      cases ho : okV (el l k) with
      | true =>
        have hok2 : Hid (allV l (k + 1) = true) := by show _ = _; simp [allV, hok.out, ho]
        clear c0 c1 c2
        go_wp2
        go_roundw
        case rel => exact ⟨k + 1, by go_num, by omega, hok2, P⟩
        case measure => simp [intOf] <;> omega
      | false =>
        have hno := Lib.hid (allV_no ho hlt)
        clear c0 c1 c2
        go_wp2
        go_ret
        exact ⟨k, rfl, by rw [hno.out]; simp, by omega, by omega, P⟩
    · obtain rfl : k = n := by omega
      go_wp2
      go_ret
      exact ⟨-1, rfl, by rw [hok.out]; rfl, by omega, by omega, bel⟩
set_option maxHeartbeats 400000 in
theorem con105 (A : Option Addr) (n c : Nat) (l : List Vl) (w : World) (hr : RdV w A n l) : Calls Try.prog 105 #[.slice A n c, .func (.func 106) #[] #[]] w fun e w' => e = .returned (.bool (!allV l n)) ∧ Below w.heap.size w w' := by
  go_enter Try.func105, Try.ntmps105
  go_wp2_with fail
  (with_reducible refine (idx111 A n c l _ hr).mono ?_)
  rintro e W1 ⟨r, rfl, h1, h2, h3, hB⟩
  have h1 := Lib.hid h1
  go_wp2
  go_ret
  exact ⟨by rw [← h1.out]; rfl, hB⟩
set_option maxHeartbeats 400000 in
theorem right97 (A : Option Addr) (n c : Nat) (l : List Vl) (w : World) (hr : RdV w A n l) : Calls Try.prog 97 #[.slice A n c] w fun e w' => e = .returned (.bool (allV l n)) ∧ Below w.heap.size w w' := by
  go_enter Try.func97, Try.ntmps97
  go_wp2_with fail
  (with_reducible refine (con105 A n c l _ hr).mono ?_)
  rintro e W1 ⟨rfl, hB⟩
  go_wp2
  go_ret
  exact ⟨by simp, hB⟩
end Go.Proofs.Ytegkclehijdbiaa.V2
