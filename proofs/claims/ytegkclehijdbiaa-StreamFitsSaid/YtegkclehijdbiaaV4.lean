import Derived.Test.YtegkclehijdbiaaV3
set_option linter.unusedSimpArgs false
set_option linter.unusedVariables false
namespace Go.Proofs.Ytegkclehijdbiaa.V4
open Go.RowKit Go.Proofs.YtegkclehijdbiaaW.PrintWords Go.Proofs.YtegkclehijdbiaaW.PrintLast Go.Proofs.Ytegkclehijdbiaa.V1 Go.Proofs.Ytegkclehijdbiaa.V2 Go.Proofs.Ytegkclehijdbiaa.V3

def letB (c : Int) : Bool := decide (97 ≤ c) && decide (c ≤ 122)
def partB (c : Int) : Bool := letB c || (decide (48 ≤ c) && decide (c ≤ 57)) || c == 95
def allP (s : ByteArray) : Nat → Bool
  | 0 => true
  | k + 1 => allP s k && partB (bt s k)
theorem allP_no {s : ByteArray} {k : Nat} (h : partB (bt s k) = false) : ∀ {n : Nat}, k < n → allP s n = false
  | n + 1, hk => by
    by_cases e : k = n
    · subst e; simp only [allP, h, Bool.and_false]
    · simp only [allP, allP_no h (n := n) (by omega), Bool.false_and]
/-- It is a name. -/
def namB (s : ByteArray) : Bool := decide (0 < s.size) && decide (s.size ≤ 16) && letB (bt s 0) && allP s s.size

set_option maxHeartbeats 400000 in
theorem letter112 (c : Int) (w : World) (h0 : 0 ≤ c) (h1 : c ≤ 255) : Calls Try.prog 112 #[.int .u8 c] w fun e w' => e = .returned (.bool (letB c)) ∧ w = w' := by
  have hv := Lib.hid (show letB c = (decide (97 ≤ c) && decide (c ≤ 122)) from rfl)
  generalize letB c = b at *
  by_cases l1 : 97 ≤ c <;> by_cases l2 : c ≤ 122
  all_goals
    go_enter Try.func112, Try.ntmps112
    go_wp2
    go_ret
    exact ⟨by rw [hv.out]; simp [l1, l2], rfl⟩
set_option maxHeartbeats 400000 in
theorem part113 (c : Int) (w : World) (h0 : 0 ≤ c) (h1 : c ≤ 255) : Calls Try.prog 113 #[.int .u8 c] w fun e w' => e = .returned (.bool (partB c)) ∧ w = w' := by
  have hv := Lib.hid (show partB c = (letB c || (decide (48 ≤ c) && decide (c ≤ 57)) || c == 95) from rfl)
  generalize partB c = b at *
  go_enter Try.func113, Try.ntmps113
  go_wp2_with fail
  (with_reducible refine (letter112 c _ h0 h1).mono ?_)
  rintro e W1 ⟨rfl, rfl⟩
  generalize letB c = lb at *
  cases lb <;> by_cases l1 : 48 ≤ c <;> by_cases l2 : c ≤ 57 <;> by_cases l3 : c = 95
  all_goals first
    | (exfalso; omega)
    | (have l4 : (c == 95) = decide (c = 95) := by rw [Bool.eq_iff_iff]; simp
       go_wp2
       go_ret
       exact ⟨by rw [hv.out]; simp [l1, l2, l3], rfl⟩)

set_option maxHeartbeats 1000000 in
/-- schema.named. -/
theorem named107 (s : ByteArray) (w : World) (hs : s.size ≤ 9223372036854775807) : Calls Try.prog 107 #[.string s] w fun e w' => e = .returned (.bool (namB s)) ∧ Below w.heap.size w w' := by
  have hv := Lib.hid (show namB s = (decide (0 < s.size) && decide (s.size ≤ 16) && letB (bt s 0) && allP s s.size) from rfl)
  by_cases z0 : 0 < s.size
  · have e0 := empty_no z0
    by_cases z1 : 16 < s.size
    · have hF : Hid (namB s = false) := by show _ = _; rw [hv.out, show decide (s.size ≤ 16) = false from decide_eq_false (by omega)]; simp
      go_enter Try.func107, Try.ntmps107
      go_wp2
      go_ret
      exact ⟨by rw [hF.out]; rfl, Below.refl _ _⟩
    · have hx : ∀ h : 0 < s.size, ((s[0]'h).toNat : Int) = bt s 0 := bt_at s 0
      obtain ⟨b0, b1⟩ := bt_range s 0
      have kb := fun W => print_bytes (P := Try.prog) 9 60 5 Try.underlying9 Try.underlying60 Try.underlying5 s W
      have hrd := bytes_reads w 5 s hs
      have hB0 := bytes_below (Below.refl w.heap.size w) (Nat.le_refl _) 5 s
      have hv2 : Hid (namB s = (letB (bt s 0) && allP s s.size)) := by show _ = _; rw [hv.out, show decide (s.size ≤ 16) = true from decide_eq_true (by omega), show decide (0 < s.size) = true by simpa using z0]; simp
      go_enter Try.func107, Try.ntmps107
      go_wp2_with fail
      (with_reducible refine (letter112 (bt s 0) _ b0 b1).mono ?_)
      rintro e W1 ⟨rfl, rfl⟩
      cases hl : letB (bt s 0) with
      | false =>
        have hF : Hid (namB s = false) := by show _ = _; rw [hv2.out, hl]; rfl
        go_wp2
        go_ret
        exact ⟨by rw [hF.out]; rfl, Below.refl _ _⟩
      | true =>
        have hl := Lib.hid hl
        go_wp2
        generalize Lib.bytesWorld w 5 s = W1 at *
        clear kb hx e0
        go_loopw [21] (fun i wr => ∃ k : Nat, i = .int .i64 k ∧ k ≤ s.size ∧ Hid (allP s k = true) ∧ ∃ q, wr = W1.drewN q) (fun i _ => s.size - (intOf i).toNat)
        case atStart => exact ⟨0, rfl, by omega, rfl, 0, rfl⟩
        case round =>
          obtain ⟨k, rfl, hk, hok, q, rfl⟩ := hrel
          by_cases hlt : k < s.size
          · obtain ⟨ad, had, hcx⟩ := hrd.at_ k (by omega) (by omega)
            cases had
            rw [Int.toNat_natCast, add_plain, rd_bytesOf] at hcx
            have q0 : (0 : Int) ≤ (k : Int) := by omega
            have q1 : (k : Int) < (s.size : Int) := by omega
            obtain ⟨x0, x1⟩ := bt_range s k
            go_wp2_with fail
            (with_reducible refine (part113 (bt s k) _ x0 x1).mono ?_)
            rintro e W2 ⟨rfl, rfl⟩
            cases ho : partB (bt s k) with
            | true =>
              have hok2 : Hid (allP s (k + 1) = true) := by show _ = _; simp only [allP, hok.out, ho, Bool.and_self]
              go_wp2
              go_roundw
              case rel => exact ⟨k + 1, by go_num, by omega, hok2, _, rfl⟩
              case measure => simp [intOf] <;> omega
            | false =>
              have hF : Hid (namB s = false) := by show _ = _; rw [hv2.out, allP_no ho hlt]; simp
              go_wp2
              go_ret
              exact ⟨by rw [hF.out]; rfl, pw_below_drewN hB0 _⟩
          · obtain rfl : k = s.size := by omega
            have hF : Hid (namB s = true) := by show _ = _; rw [hv2.out, hl.out, hok.out]; rfl
            go_wp2
            go_ret
            exact ⟨by rw [hF.out]; rfl, pw_below_drewN hB0 _⟩
  · have e0 := empty_yes (s := s) (by omega)
    have hF : Hid (namB s = false) := by show _ = _; rw [hv.out, show decide (0 < s.size) = false from decide_eq_false (by omega)]; simp
    go_enter Try.func107, Try.ntmps107
    go_wp2
    go_ret
    exact ⟨by rw [hF.out]; rfl, Below.refl _ _⟩

theorem nam_first {s : ByteArray} {c : Int} (h : partB c = false) : letB c = false := by
  cases e : letB c with
  | false => rfl
  | true => simp [partB, e] at h
set_option maxHeartbeats 2000000 in
/-- The reference's Named. -/
theorem named95 (s : ByteArray) (w : World) (hs : s.size ≤ 9223372036854775807) : Calls Try.prog 95 #[.string s] w fun e w' => e = .returned (.bool (namB s)) ∧ Below w.heap.size w w' := by
  have hv := Lib.hid (show namB s = (decide (0 < s.size) && decide (s.size ≤ 16) && letB (bt s 0) && allP s s.size) from rfl)
  by_cases z : 0 < s.size ∧ s.size ≤ 16
  · obtain ⟨z0, z1⟩ := z
    have hv2 : Hid (namB s = (letB (bt s 0) && allP s s.size)) := by show _ = _; rw [hv.out, show decide (s.size ≤ 16) = true by simpa using z1, show decide (0 < s.size) = true by simpa using z0]; simp
    go_enter Try.func95, Try.ntmps95
    go_wp2
    go_loopw [3] (fun i wr => ∃ k : Nat, i = .int .i64 k ∧ k ≤ s.size ∧ Hid (allP s k = true) ∧ Hid (0 < k → letB (bt s 0) = true) ∧ ∃ q, wr = w.drewN q) (fun i _ => s.size - (intOf i).toNat)
    case atStart => exact ⟨0, rfl, by omega, rfl, fun h => by omega, 0, rfl⟩
    case round =>
      obtain ⟨k, rfl, hk, hok, hfi, q, rfl⟩ := hrel
      by_cases hlt : k < s.size
      · have hxk : ∀ h : k < s.size, ((s[k]'h).toNat : Int) = bt s k := bt_at s k
        have q0 : (0 : Int) ≤ (k : Int) := by omega
        have q1 : (k : Int) < (s.size : Int) := by omega
        obtain ⟨x0, x1⟩ := bt_range s k
        generalize hc : bt s k = c at *
        have hc2 := Lib.hid hc
        clear hc
        have hc := hc2
        clear hc2
        by_cases l0 : 97 ≤ c ∧ c ≤ 122
        · have hlt' : letB c = true := by simp [letB, l0.1, l0.2]
          obtain ⟨l1, l2⟩ := l0
          have hok2 : Hid (allP s (k + 1) = true) := by show _ = _; simp only [allP, hok.out, hc.out, partB, hlt']; simp
          have hf2 : Hid (0 < k + 1 → letB (bt s 0) = true) := fun _ => by
            by_cases e : k = 0
            · subst e; rw [show ((0 : Nat) : Int) = 0 from rfl] at hc; rw [hc.out]; exact hlt'
            · exact hfi.out (by omega)
          go_wp2
          go_roundw
          case rel => exact ⟨k + 1, by go_num, by omega, hok2, hf2, _, rfl⟩
          case measure => simp [intOf] <;> omega
        · have hlf : letB c = false := by
            unfold letB
            by_cases l1 : 97 ≤ c
            · rw [decide_eq_false (show ¬ c ≤ 122 from fun h => l0 ⟨l1, h⟩)]; simp
            · rw [decide_eq_false l1]; simp
          have l1 : c < 97 ∨ 122 < c := by omega
          by_cases hk0 : k = 0
          · have hc0 : bt s 0 = c := by have := hc.out; rw [hk0] at this; exact this
            have hF : Hid (namB s = false) := by show _ = _; rw [hv2.out, hc0, hlf]; rfl
            have k0t : ((k : Int) == 0) = true := by rw [beq_iff_eq]; omega
            clear hk0 hc0
            rcases l1 with l1 | l1
            all_goals
              clear hlf l0
              go_wp2
              all_goals first
                | (exfalso; omega)
                | (exfalso; simp_all; done)
                | (exfalso; simp_all; omega)
                | (go_ret; exact ⟨by rw [hF.out]; rfl, pw_below_drewN (Below.refl _ _) _⟩)
          · have k0b : ((k : Int) == 0) = false := by rw [beq_eq_false_iff_ne]; omega
            by_cases l2 : (48 ≤ c ∧ c ≤ 57) ∨ c = 95
            · have hp : partB c = true := by
                rcases l2 with ⟨a, b⟩ | a
                · simp [partB, a, b]
                · subst a; simp [partB]
              have hok2 : Hid (allP s (k + 1) = true) := by show _ = _; simp only [allP, hok.out, hc.out, hp]; rfl
              have hf2 : Hid (0 < k + 1 → letB (bt s 0) = true) := fun _ => hfi.out (by omega)
              clear hlf l0 hp
              have l3 : (48 ≤ c ∧ c ≤ 57 ∧ c < 97) ∨ (c = 95) := by omega
              clear l1 l2
              rcases l3 with ⟨a, b, l1⟩ | rfl
              all_goals
                go_wp2
                go_roundw
                case rel => exact ⟨k + 1, by go_num, by omega, hok2, hf2, _, rfl⟩
                case measure => simp [intOf] <;> omega
            · have hp : partB c = false := by
                have a1 : (decide (48 ≤ c) && decide (c ≤ 57)) = false := by
                  rw [Bool.eq_iff_iff]; simp; omega
                have a2 : (c == 95) = false := by rw [beq_eq_false_iff_ne]; omega
                simp only [partB, hlf, a1, a2]; rfl
              have hF : Hid (namB s = false) := by show _ = _; rw [hv2.out, allP_no (by rw [hc.out]; exact hp) hlt]; simp
              have a2 : (c == 95) = false := by rw [beq_eq_false_iff_ne]; omega
              have a3 : (c != 95) = true := by rw [bne_iff_ne]; omega
              have l3 : (c < 48) ∨ (57 < c ∧ c < 97 ∧ c ≠ 95) ∨ (122 < c) := by omega
              clear hlf l0 hp l1 l2
              rcases l3 with l1 | ⟨l1, l2, l3⟩ | l1
              all_goals
                go_wp2
                all_goals first
                  | (exfalso; omega)
                  | (exfalso; simp_all; done)
                  | (exfalso; simp_all; omega)
                  | (go_ret; exact ⟨by rw [hF.out]; rfl, pw_below_drewN (Below.refl _ _) _⟩)
      · obtain rfl : k = s.size := by omega
        have hF : Hid (namB s = true) := by show _ = _; rw [hv2.out, hfi.out z0, hok.out]; rfl
        go_wp2
        go_ret
        exact ⟨by rw [hF.out]; rfl, pw_below_drewN (Below.refl _ _) _⟩
  · have hF : Hid (namB s = false) := by
      show _ = _
      rw [hv.out]
      by_cases z0 : 0 < s.size
      · rw [show decide (s.size ≤ 16) = false from decide_eq_false (by omega)]; simp
      · rw [show decide (0 < s.size) = false from decide_eq_false (by omega)]; simp
    have z2 : s.size < 1 ∨ 16 < s.size := by omega
    clear z
    go_enter Try.func95, Try.ntmps95
    rcases z2 with z2 | z2
    all_goals
      go_wp2
      go_ret
      exact ⟨by rw [hF.out]; rfl, Below.refl _ _⟩
end Go.Proofs.Ytegkclehijdbiaa.V4
