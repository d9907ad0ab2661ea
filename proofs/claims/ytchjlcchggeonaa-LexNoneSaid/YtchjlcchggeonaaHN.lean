import Derived.Test.YtchjlcchggeonaaWWords
import Derived.Test.YtchjlcchggeonaaWLast
import Derived.Test.YtchjlcchggeonaaProg
import Derived.Handy
import Derived.Lib.Hide
set_option linter.unusedSimpArgs false
set_option linter.unusedVariables false
namespace Go.Proofs.Ytchjlcchggeonaa.HN
open Go.RowKit Go.Proofs.YtchjlcchggeonaaW.PrintWords Go.Proofs.YtchjlcchggeonaaW.PrintLast

theorem empty_no {s : ByteArray} (h : 0 < s.size) : s.toList.isEmpty = false := by
  rw [ByteArray.toList_eq, List.isEmpty_eq_false_iff]
  intro e
  have := data_length s
  rw [e] at this; simp at this; omega
theorem empty_yes {s : ByteArray} (h : s.size = 0) : s.toList.isEmpty = true := by
  rw [ByteArray.toList_eq, List.isEmpty_iff]
  exact List.eq_nil_of_length_eq_zero ((data_length s).trans h)

def letB (c : Int) : Bool := decide (97 ≤ c) && decide (c ≤ 122)
def partB (c : Int) : Bool := letB c || (decide (48 ≤ c) && decide (c ≤ 57)) || c == 95
def allP (s : ByteArray) : Nat → Bool
  | 0 => true
  | k + 1 => allP s k && partB (bt s k)
theorem allP_no {s : ByteArray} {k : Nat} (h : partB (bt s k) = false) : ∀ {n : Nat}, k < n → allP s n = false
  | n + 1, hk => by
    by_cases e : k = n
    · subst e; simp only [allP, h, Bool.and_false]
    · simp only [allP, allP_no h (n := n) (by omega), Bool.false_and]
/-- It is a name. -/
def namB (s : ByteArray) : Bool := decide (0 < s.size) && decide (s.size ≤ 16) && letB (bt s 0) && allP s s.size

set_option maxHeartbeats 400000 in
theorem letter36 (c : Int) (w : World) (h0 : 0 ≤ c) (h1 : c ≤ 255) : Calls Try.prog 36 #[.int .u8 c] w fun e w' => e = .returned (.bool (letB c)) ∧ w = w' := by
  have hv := Lib.hid (show letB c = (decide (97 ≤ c) && decide (c ≤ 122)) from rfl)
  generalize letB c = b at *
  by_cases l1 : 97 ≤ c <;> by_cases l2 : c ≤ 122
  all_goals
    go_enter Try.func36, Try.ntmps36
    go_wp2
    go_ret
    exact ⟨by rw [hv.out]; simp [l1, l2], rfl⟩
set_option maxHeartbeats 400000 in
theorem part37 (c : Int) (w : World) (h0 : 0 ≤ c) (h1 : c ≤ 255) : Calls Try.prog 37 #[.int .u8 c] w fun e w' => e = .returned (.bool (partB c)) ∧ w = w' := by
  have hv := Lib.hid (show partB c = (letB c || (decide (48 ≤ c) && decide (c ≤ 57)) || c == 95) from rfl)
  generalize partB c = b at *
  go_enter Try.func37, Try.ntmps37
  go_wp2_with fail
  (with_reducible refine (letter36 c _ h0 h1).mono ?_)
  rintro e W1 ⟨rfl, rfl⟩
  generalize letB c = lb at *
  cases lb <;> by_cases l1 : 48 ≤ c <;> by_cases l2 : c ≤ 57 <;> by_cases l3 : c = 95
  all_goals first
    | (exfalso; omega)
    | (have l4 : (c == 95) = decide (c = 95) := by rw [Bool.eq_iff_iff]; simp
       go_wp2
       go_ret
       exact ⟨by rw [hv.out]; simp [l1, l2, l3], rfl⟩)

set_option maxHeartbeats 1000000 in
/-- schema.named. -/
theorem named35 (s : ByteArray) (w : World) (hs : s.size ≤ 9223372036854775807) : Calls Try.prog 35 #[.string s] w fun e w' => e = .returned (.bool (namB s)) ∧ Below w.heap.size w w' := by
  have hv := Lib.hid (show namB s = (decide (0 < s.size) && decide (s.size ≤ 16) && letB (bt s 0) && allP s s.size) from rfl)
  by_cases z0 : 0 < s.size
  · have e0 := empty_no z0
    by_cases z1 : 16 < s.size
    · have hF : Hid (namB s = false) := by show _ = _; rw [hv.out, show decide (s.size ≤ 16) = false from decide_eq_false (by omega)]; simp
      go_enter Try.func35, Try.ntmps35
      go_wp2
      go_ret
      exact ⟨by rw [hF.out]; rfl, Below.refl _ _⟩
    · have hx : ∀ h : 0 < s.size, ((s[0]'h).toNat : Int) = bt s 0 := bt_at s 0
      obtain ⟨b0, b1⟩ := bt_range s 0
      have kb := fun W => print_bytes (P := Try.prog) 9 57 5 Try.underlying9 Try.underlying57 Try.underlying5 s W
      have hrd := bytes_reads w 5 s hs
      have hB0 := bytes_below (Below.refl w.heap.size w) (Nat.le_refl _) 5 s
      have hv2 : Hid (namB s = (letB (bt s 0) && allP s s.size)) := by show _ = _; rw [hv.out, show decide (s.size ≤ 16) = true from decide_eq_true (by omega), show decide (0 < s.size) = true by simpa using z0]; simp
      go_enter Try.func35, Try.ntmps35
      go_wp2_with fail
      (with_reducible refine (letter36 (bt s 0) _ b0 b1).mono ?_)
      rintro e W1 ⟨rfl, rfl⟩
      cases hl : letB (bt s 0) with
      | false =>
        have hF : Hid (namB s = false) := by show _ = _; rw [hv2.out, hl]; rfl
        go_wp2
        go_ret
        exact ⟨by rw [hF.out]; rfl, Below.refl _ _⟩
      | true =>
        have hl := Lib.hid hl
        go_wp2
        generalize Lib.bytesWorld w 5 s = W1 at *
        clear kb hx e0
        go_loopw [21] (fun i wr => ∃ k : Nat, i = .int .i64 k ∧ k ≤ s.size ∧ Hid (allP s k = true) ∧ ∃ q, wr = W1.drewN q) (fun i _ => s.size - (intOf i).toNat)
        case atStart => exact ⟨0, rfl, by omega, rfl, 0, rfl⟩
        case round =>
          obtain ⟨k, rfl, hk, hok, q, rfl⟩ := hrel
          by_cases hlt : k < s.size
          · obtain ⟨ad, had, hcx⟩ := hrd.at_ k (by omega) (by omega)
            cases had
            rw [Int.toNat_natCast, add_plain, rd_bytesOf] at hcx
            have q0 : (0 : Int) ≤ (k : Int) := by omega
            have q1 : (k : Int) < (s.size : Int) := by omega
            obtain ⟨x0, x1⟩ := bt_range s k
            go_wp2_with fail
            (with_reducible refine (part37 (bt s k) _ x0 x1).mono ?_)
            rintro e W2 ⟨rfl, rfl⟩
            cases ho : partB (bt s k) with
            | true =>
              have hok2 : Hid (allP s (k + 1) = true) := by show _ = _; simp only [allP, hok.out, ho, Bool.and_self]
              go_wp2
              go_roundw
              case rel => exact ⟨k + 1, by go_num, by omega, hok2, _, rfl⟩
              case measure => simp [intOf] <;> omega
            | false =>
              have hF : Hid (namB s = false) := by show _ = _; rw [hv2.out, allP_no ho hlt]; simp
              go_wp2
              go_ret
              exact ⟨by rw [hF.out]; rfl, pw_below_drewN hB0 _⟩
          · obtain rfl : k = s.size := by omega
            have hF : Hid (namB s = true) := by show _ = _; rw [hv2.out, hl.out, hok.out]; rfl
            go_wp2
            go_ret
            exact ⟨by rw [hF.out]; rfl, pw_below_drewN hB0 _⟩
  · have e0 := empty_yes (s := s) (by omega)
    have hF : Hid (namB s = false) := by show _ = _; rw [hv.out, show decide (0 < s.size) = false from decide_eq_false (by omega)]; simp
    go_enter Try.func35, Try.ntmps35
    go_wp2
    go_ret
    exact ⟨by rw [hF.out]; rfl, Below.refl _ _⟩

end Go.Proofs.Ytchjlcchggeonaa.HN
