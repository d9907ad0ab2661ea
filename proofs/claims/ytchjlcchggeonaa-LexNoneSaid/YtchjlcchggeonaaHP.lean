import Derived.Test.YtchjlcchggeonaaWWords
import Derived.Test.YtchjlcchggeonaaWLast
import Derived.Test.YtchjlcchggeonaaProg
import Derived.Handy
import Derived.Lib.Hide
import Derived.Lib.Mul64
import Derived.Laws.Bits64b
import Derived.Shelf.Spec.BitsCarry
set_option linter.unusedSimpArgs false
set_option linter.unusedVariables false
namespace Go.Proofs.Ytchjlcchggeonaa.HP
open Go.RowKit Go.Proofs.YtchjlcchggeonaaW.PrintWords Go.Proofs.YtchjlcchggeonaaW.PrintLast

theorem add64 (x y c : Int) (hx : 0 ≤ x) (hy : 0 ≤ y) (hc0 : 0 ≤ c) (hc : c ≤ 1) (w : World) :
    (callFunc 33 #[.int .u64 x, .int .u64 y, .int .u64 c]).run Try.prog w =
      .ok (.value (.tuple #[.int .u64 ((x + y + c) % 18446744073709551616), .int .u64 ((x + y + c) / 18446744073709551616)])) w := by
  rw [run_callFunc_extern Try.func33 (by kernel_rfl) (by kernel_rfl) (by kernel_rfl) (e := add64Entry) (by kernel_rfl), run_add64 x y c hx hy hc0 hc]
  rfl
def inR (x : Int) : Bool := decide (-9223372036854775808 ≤ x) && decide (x ≤ 9223372036854775807)
def smV (x : Int) : Int := if inR x = true then x else 0
def erV (x : Int) : Int := if inR x = true then 0 else 2
theorem smV_yes {x : Int} (h : inR x = true) : smV x = x := if_pos h
theorem smV_no {x : Int} (h : inR x = false) : smV x = 0 := if_neg (by simp [h])
theorem erV_yes {x : Int} (h : inR x = true) : erV x = 0 := if_pos h
theorem erV_no {x : Int} (h : inR x = false) : erV x = 2 := if_neg (by simp [h])
theorem maskN (a : Nat) (ha : a < 18446744073709551616) : bits .and .u64 (a : Int) 4294967295 = ((a % 4294967296 : Nat) : Int) := by
  have h := bits_and_u64_nat a 4294967295 ha (by omega)
  rw [show a &&& 4294967295 = a % 4294967296 from Nat.and_two_pow_sub_one_eq_mod a 32] at h
  exact h
theorem divN (a : Nat) : (a : Int) / 4294967296 = ((a / 4294967296 : Nat) : Int) := by omega
theorem mulN (a b : Nat) : (a : Int) * (b : Int) = ((a * b : Nat) : Int) := (Int.natCast_mul a b).symm
theorem addN (a b : Nat) : (a : Int) + (b : Int) = ((a + b : Nat) : Int) := (Int.natCast_add a b).symm
theorem wrapN (a : Nat) (ha : a < 18446744073709551616) : IntKind.u64.wrap (a : Int) = (a : Int) := by rw [IntKind.wrap_u64]; omega
theorem wrapM (a : Nat) : IntKind.u64.wrap (a : Int) = ((a % 18446744073709551616 : Nat) : Int) := by rw [IntKind.wrap_u64]; omega

set_option maxHeartbeats 1000000 in
/-- bits.Mul64. -/
theorem mul64 (x y : Nat) (hx : x < 18446744073709551616) (hy : y < 18446744073709551616) (w : World) :
    Calls Try.prog 32 #[.int .u64 x, .int .u64 y] w fun e w' => e = .returned (.tuple #[.int .u64 ((x * y / 18446744073709551616 : Nat) : Int), .int .u64 ((x * y % 18446744073709551616 : Nat) : Int)]) ∧ w = w' := by
  obtain ⟨bd, bt, bw, hhi⟩ := Lib.mul64_hi x y hx hy
  have ba := Lib.half_mul_le (a := x / 4294967296) (b := y / 4294967296) (by omega) (by omega)
  have bb := Lib.half_mul_le (a := x / 4294967296) (b := y % 4294967296) (by omega) (by omega)
  have bc := Lib.half_mul_le (a := x % 4294967296) (b := y / 4294967296) (by omega) (by omega)
  have ba' : x / 4294967296 * (y / 4294967296) < 18446744073709551616 := by omega
  have bb' : x / 4294967296 * (y % 4294967296) < 18446744073709551616 := by omega
  have bc' : x % 4294967296 * (y / 4294967296) < 18446744073709551616 := by omega
  have bh1 : x / 4294967296 * (y / 4294967296) + (x / 4294967296 * (y % 4294967296) + x % 4294967296 * (y % 4294967296) / 4294967296) / 4294967296 < 18446744073709551616 := by omega
  have bh : x / 4294967296 * (y / 4294967296) + (x / 4294967296 * (y % 4294967296) + x % 4294967296 * (y % 4294967296) / 4294967296) / 4294967296 + ((x / 4294967296 * (y % 4294967296) + x % 4294967296 * (y % 4294967296) / 4294967296) % 4294967296 + x % 4294967296 * (y / 4294967296)) / 4294967296 < 18446744073709551616 := by omega
  go_enter Try.func32, Try.ntmps32
  go_wp2
  simp only [maskN x hx, maskN y hy, divN, mulN, addN, wrapN _ bd, wrapN _ bb', wrapN _ bt, maskN _ bt, wrapN _ bc', wrapN _ bw, wrapN _ ba', wrapN _ bh1, wrapN _ bh, wrapM (x * y)]
  rw [hhi]
  go_ret2
  exact ⟨rfl, rfl⟩

/-- The number of a sign and a size. -/
def sgV (n : Bool) (u : Nat) : Int := if n then -(u : Int) else u
set_option maxHeartbeats 1000000 in
theorem signed (n : Bool) (u : Nat) (hu : u < 18446744073709551616) (w : World) : Calls Try.prog 34 #[.bool n, .int .u64 u] w fun e w' => e = .returned (.tuple #[.int .i64 (smV (sgV n u)), .int .i64 (erV (sgV n u))]) ∧ w = w' := by
  cases n with
  | true =>
    by_cases h : u ≤ 9223372036854775808
    · have hi : inR (sgV true u) = true := by simp [inR, sgV]; omega
      have e1 := Lib.hid (smV_yes hi)
      have e2 := Lib.hid (erV_yes hi)
      have e3 : wrap64 (-wrap64 (u : Int)) = sgV true u := by simp only [wrap64, sgV]; simp; omega
      clear hi
      go_enter Try.func34, Try.ntmps34
      go_wp2
      go_ret2
      rw [e1.out, e2.out, e3]
      exact ⟨rfl, rfl⟩
    · have hi : inR (sgV true u) = false := by simp [inR, sgV]; omega
      have e1 := Lib.hid (smV_no hi)
      have e2 := Lib.hid (erV_no hi)
      clear hi
      go_enter Try.func34, Try.ntmps34
      go_wp2
      go_ret2
      rw [e1.out, e2.out]
      exact ⟨rfl, rfl⟩
  | false =>
    by_cases h : u ≤ 9223372036854775807
    · have hi : inR (sgV false u) = true := by simp [inR, sgV]; omega
      have e1 := Lib.hid (smV_yes hi)
      have e2 := Lib.hid (erV_yes hi)
      have e3 : IntKind.i64.wrap (u : Int) = sgV false u := by simp only [IntKind.wrap_i64, wrap64, sgV]; simp; omega
      clear hi
      go_enter Try.func34, Try.ntmps34
      go_wp2
      go_ret2
      rw [e1.out, e2.out]
      first | rw [e3] | skip
      exact ⟨rfl, rfl⟩
    · have hi : inR (sgV false u) = false := by simp [inR, sgV]; omega
      have e1 := Lib.hid (smV_no hi)
      have e2 := Lib.hid (erV_no hi)
      clear hi
      go_enter Try.func34, Try.ntmps34
      go_wp2
      go_ret2
      rw [e1.out, e2.out]
      exact ⟨rfl, rfl⟩

/-- A text's sign; what is behind it. -/
def negB (s : ByteArray) : Bool := decide (0 < s.size) && (bt s 0 == 45)
def restS (s : ByteArray) : ByteArray := if negB s = true then s.extract 1 s.size else s
theorem empty_no {s : ByteArray} (h : 0 < s.size) : s.toList.isEmpty = false := by
  rw [ByteArray.toList_eq, List.isEmpty_eq_false_iff]
  intro e
  have := data_length s
  rw [e] at this; simp at this; omega
theorem empty_yes {s : ByteArray} (h : s.size = 0) : s.toList.isEmpty = true := by
  rw [ByteArray.toList_eq, List.isEmpty_iff]
  exact List.eq_nil_of_length_eq_zero ((data_length s).trans h)
/-- It is a number's text. -/
def Okt (r : ByteArray) (ng : Bool) : Prop := 0 < r.size ∧ ¬ (bt r 0 = 48 ∧ (ng = true ∨ 1 < r.size)) ∧ ∀ i : Nat, i < r.size → 48 ≤ bt r i ∧ bt r i ≤ 57
instance (r : ByteArray) (ng : Bool) : Decidable (Okt r ng) := by unfold Okt; infer_instance
def hor (r : ByteArray) : Nat → Int
  | 0 => 0
  | k + 1 => hor r k * 10 + (bt r k - 48)
/-- Its number. -/
def numT (r : ByteArray) (ng : Bool) : Int := if ng = true then -(hor r r.size) else hor r r.size
def psV (r : ByteArray) (ng : Bool) : Int := if Okt r ng then smV (numT r ng) else 0
def psE (r : ByteArray) (ng : Bool) : Int := if Okt r ng then erV (numT r ng) else 12
theorem ps_bad {r : ByteArray} {ng : Bool} (h : ¬ Okt r ng) : psV r ng = 0 ∧ psE r ng = 12 := ⟨if_neg h, if_neg h⟩
theorem ps_ok {r : ByteArray} {ng : Bool} (h : Okt r ng) : psV r ng = smV (numT r ng) ∧ psE r ng = erV (numT r ng) := ⟨if_pos h, if_pos h⟩

def nV (r : ByteArray) : Nat → Int
  | 0 => 0
  | k + 1 => (nV r k * 10 % 18446744073709551616 + (bt r k - 48)) % 18446744073709551616
def ov (r : ByteArray) : Nat → Bool
  | 0 => false
  | k + 1 => (ov r k || nV r k * 10 / 18446744073709551616 != 0) || (nV r k * 10 % 18446744073709551616 + (bt r k - 48)) / 18446744073709551616 != 0
theorem nV_bd (r : ByteArray) (k : Nat) : 0 ≤ nV r k ∧ nV r k < 18446744073709551616 := by
  cases k with
  | zero => simp [nV]
  | succ k => simp only [nV]; omega
structure Inv (r : ByteArray) (k : Nat) : Prop where
  dg : ∀ i : Nat, i < k → 48 ≤ bt r i ∧ bt r i ≤ 57
  ge : 0 ≤ hor r k
  low : ov r k = false → nV r k = hor r k
  big : ov r k = true → 18446744073709551616 ≤ hor r k
theorem Inv.zero (r : ByteArray) : Inv r 0 := ⟨fun _ h => by omega, by simp [hor], fun _ => rfl, fun h => by simp [ov] at h⟩
theorem Inv.step {r : ByteArray} {k : Nat} (h : Inv r k) (h0 : 48 ≤ bt r k) (h1 : bt r k ≤ 57) : Inv r (k + 1) := by
  have hg := h.ge
  have hn := nV_bd r k
  refine ⟨fun i hi => ?_, by simp only [hor]; omega, fun ho => ?_, fun ho => ?_⟩
  · by_cases e : i = k
    · subst e; exact ⟨h0, h1⟩
    · exact h.dg i (by omega)
  · simp only [ov, Bool.or_eq_false_iff, bne_eq_false_iff_eq] at ho
    have := h.low ho.1.1
    simp only [nV, hor]; omega
  · simp only [ov, Bool.or_eq_true, bne_iff_ne] at ho
    simp only [hor]
    cases hov : ov r k with
    | true => have := h.big hov; omega
    | false => have := h.low hov; rw [hov] at ho; simp at ho; omega

theorem mul10 (x : Int) (w : World) (h0 : 0 ≤ x) (h1 : x < 18446744073709551616) :
    Calls Try.prog 32 #[.int .u64 x, .int .u64 10] w fun e w' => e = .returned (.tuple #[.int .u64 (x * 10 / 18446744073709551616), .int .u64 (x * 10 % 18446744073709551616)]) ∧ w = w' := by
  obtain ⟨n, rfl⟩ := Int.eq_ofNat_of_zero_le h0
  have h := mul64 n 10 (by omega) (by omega) w
  have e1 : ((n * 10 / 18446744073709551616 : Nat) : Int) = (n : Int) * 10 / 18446744073709551616 := by omega
  have e2 : ((n * 10 % 18446744073709551616 : Nat) : Int) = (n : Int) * 10 % 18446744073709551616 := by omega
  rw [e1, e2] at h
  exact h
def sgI (ng : Bool) (u : Int) : Int := if ng = true then -u else u
theorem signedI (ng : Bool) (u : Int) (h0 : 0 ≤ u) (h1 : u < 18446744073709551616) (w : World) : Calls Try.prog 34 #[.bool ng, .int .u64 u] w fun e w' => e = .returned (.tuple #[.int .i64 (smV (sgI ng u)), .int .i64 (erV (sgI ng u))]) ∧ w = w' := by
  obtain ⟨n, rfl⟩ := Int.eq_ofNat_of_zero_le h0
  exact signed ng n (by omega) w
theorem over_out {r : ByteArray} {ng : Bool} (h : Inv r r.size) (ho : ov r r.size = true) : smV (numT r ng) = 0 ∧ erV (numT r ng) = 2 := by
  have := h.big ho
  have hi : inR (numT r ng) = false := by unfold numT; cases ng <;> simp [inR] <;> omega
  exact ⟨smV_no hi, erV_no hi⟩

set_option maxHeartbeats 2000000 in
/-- Parse reads the number. -/
theorem parse (s : ByteArray) (w : World) (hs : s.size ≤ 140737488351232) : Calls Try.prog 29 #[.string s] w fun e w' => e = .returned (.tuple #[.int .i64 (psV (restS s) (negB s)), .int .i64 (psE (restS s) (negB s))]) ∧ Below w.heap.size w w' := by
  by_cases h : 0 < s.size ∧ bt s 0 = 45
  · obtain ⟨h0, h1⟩ := h
    have e0 := empty_no h0
    have hx : ∀ h : 0 < s.size, ((s[0]'h).toNat : Int) = bt s 0 := bt_at s 0
    have n1 : negB s = true := by simp [negB, h0, h1]
    have n2 : restS s = s.extract 1 s.size := by simp [restS, n1]
    have n3 : (s.extract 1 s.size).size ≤ 140737488351232 := by simp; omega
    have h2 : (1 : Int) ≤ (s.size : Int) := by omega
    obtain ⟨r, hr⟩ : ∃ r, r = s.extract 1 s.size := ⟨_, rfl⟩
    rw [n1, n2, ← hr]
    rw [← hr] at n3
    clear n1 n2
    have hr2 := Lib.hid hr
    clear hr
    go_enter Try.func29, Try.ntmps29
    go_upto_region 4 with fail
    rw [← hr2.out]
    clear hr2
    clear hx e0 h1 h2 hs
    by_cases z0 : 0 < r.size
    · have e1 := empty_no z0
      have hy : ∀ h : 0 < r.size, ((r[0]'h).toNat : Int) = bt r 0 := bt_at r 0
      have zn : ¬ (r.size = 0) := by omega
      by_cases z1 : bt r 0 = 48
      · have hb := ps_bad (r := r) (ng := true) (fun h => h.2.1 (by simp [z1]))
        have hb := Lib.hid hb
        go_wp2
        go_returns
        exact ⟨by rw [hb.out.1, hb.out.2]; rfl, Below.refl _ _⟩
      · have Z1 := Lib.hid z1
        have Z0 := Lib.hid z0
        have kb := fun W => print_bytes (P := Try.prog) 9 57 5 Try.underlying9 Try.underlying57 Try.underlying5 r W
        have hrd := bytes_reads w 5 r (by omega)
        have hB0 := bytes_below (Below.refl w.heap.size w) (Nat.le_refl _) 5 r
        go_wp2
        generalize Lib.bytesWorld w 5 r = W1 at *
        clear kb hy e1 z0 zn
        go_loopw [42, 6, 7] (fun i u o wr => ∃ k : Nat, i = .int .i64 k ∧ k ≤ r.size ∧ Inv r k ∧ u = .int .u64 (nV r k) ∧ o = .bool (ov r k) ∧ ∃ q, wr = W1.drewN q) (fun i _ _ _ => r.size - (intOf i).toNat)
        case atStart => exact ⟨0, rfl, by omega, Inv.zero _, rfl, rfl, 0, rfl⟩
        case round =>
          obtain ⟨k, rfl, hk, hI, rfl, rfl, q, rfl⟩ := hrel
          by_cases hlt : k < r.size
          · obtain ⟨ad, had, hcx⟩ := hrd.at_ k (by omega) (by omega)
            cases had
            rw [Int.toNat_natCast, add_plain, rd_bytesOf] at hcx
            have q0 : (0 : Int) ≤ (k : Int) := by omega
            have q1 : (k : Int) < (r.size : Int) := by omega
            obtain ⟨x0, x1⟩ := bt_range r k
            obtain ⟨u0, u1⟩ := nV_bd r k
            by_cases d0 : bt r k < 48
            · have hb := Lib.hid (ps_bad (r := r) (ng := true) (fun h => by have := (h.2.2 k hlt).1; omega))
              go_wp2
              go_returns
              exact ⟨by rw [hb.out.1, hb.out.2]; rfl, pw_below_drewN hB0 _⟩
            · by_cases d1 : 57 < bt r k
              · have hb := Lib.hid (ps_bad (r := r) (ng := true) (fun h => by have := (h.2.2 k hlt).2; omega))
                go_wp2
                go_returns
                exact ⟨by rw [hb.out.1, hb.out.2]; rfl, pw_below_drewN hB0 _⟩
              · have hI2 := Lib.hid (hI.step (by omega) (by omega))
                clear hI
                have v0 : 0 ≤ nV r k * 10 % 18446744073709551616 := by omega
                have v1 : 0 ≤ bt r k - 48 := by omega
                have g2 := Lib.hid (show nV r (k + 1) = (nV r k * 10 % 18446744073709551616 + (bt r k - 48)) % 18446744073709551616 from rfl)
                have g3 := Lib.hid (show ov r (k + 1) = ((ov r k || nV r k * 10 / 18446744073709551616 != 0) || (nV r k * 10 % 18446744073709551616 + (bt r k - 48)) / 18446744073709551616 != 0) from rfl)
                generalize ov r k = ob at *
                cases ob
                all_goals
                  go_wp2_with fail
                  (with_reducible refine (mul10 _ _ u0 u1).mono ?_)
                  rintro e W2 ⟨rfl, rfl⟩
                  go_wp2_with (rw [add64 _ _ _ v0 v1 (Int.le_refl 0) (by decide)])
                  all_goals
                    go_roundw
                    case rel => exact ⟨k + 1, by go_num, by omega, hI2.out, by rw [g2.out]; first | rfl | (simp; done), by rw [g3.out]; first | rfl | (simp; done) | (simp [*]; done), _, rfl⟩
                    case measure => simp [intOf] <;> omega
          · obtain rfl : k = r.size := by omega
            obtain ⟨u0, u1⟩ := nV_bd r r.size
            have hok : Okt r true := ⟨Z0.out, fun h => Z1.out h.1, hI.dg⟩
            have hps := Lib.hid (ps_ok hok)
            cases ho : ov r r.size with
            | true =>
              have hov := Lib.hid (over_out (ng := true) hI ho)
              clear hI ho
              go_wp2
              go_returns
              exact ⟨by rw [hps.out.1, hps.out.2, hov.out.1, hov.out.2]; rfl, pw_below_drewN hB0 _⟩
            | false =>
              have hlow := Lib.hid (hI.low ho)
              clear hI ho
              go_wp2_with (go_at_call 34; (with_reducible refine (signedI _ _ u0 u1 _).mono ?_); rintro e W2 ⟨rfl, rfl⟩)
              go_ret2
              exact ⟨by rw [hps.out.1, hps.out.2]; unfold sgI numT; rw [hlow.out]; rfl, pw_below_drewN hB0 _⟩
    · have e1 := empty_yes (s := r) (by omega)
      have hb := Lib.hid (ps_bad (r := r) (ng := true) (fun h => z0 h.1))
      go_wp2
      go_returns
      exact ⟨by rw [hb.out.1, hb.out.2]; rfl, Below.refl _ _⟩
  · have n1 : negB s = false := by
      unfold negB
      by_cases h0 : 0 < s.size
      · have : bt s 0 ≠ 45 := fun e => h ⟨h0, e⟩
        simp [this]
      · simp [h0]
    have n2 : restS s = s := by simp [restS, n1]
    rw [n1, n2]
    clear n1 n2
    by_cases h0 : 0 < s.size
    · have h1 : bt s 0 ≠ 45 := fun e => h ⟨h0, e⟩
      have h1b : (bt s 0 == 45) = false := by simpa using h1
      have e0 := empty_no h0
      have hx : ∀ h : 0 < s.size, ((s[0]'h).toNat : Int) = bt s 0 := bt_at s 0
      clear h
      go_enter Try.func29, Try.ntmps29
      go_upto_region 4 with fail
      clear hx e0 h1 h1b
      by_cases z0 : 0 < s.size
      · have e1 := empty_no z0
        have hy : ∀ h : 0 < s.size, ((s[0]'h).toNat : Int) = bt s 0 := bt_at s 0
        have zn : ¬ (s.size = 0) := by omega
        by_cases z1 : bt s 0 = 48 ∧ 1 < s.size
        · have hb := ps_bad (r := s) (ng := false) (fun h => h.2.1 (by simp [z1]))
          have hb := Lib.hid hb
          go_wp2
          go_returns
          exact ⟨by rw [hb.out.1, hb.out.2]; rfl, Below.refl _ _⟩
        · have Z1 := Lib.hid z1
          have Z0 := Lib.hid z0
          have kb := fun W => print_bytes (P := Try.prog) 9 57 5 Try.underlying9 Try.underlying57 Try.underlying5 s W
          have hrd := bytes_reads w 5 s (by omega)
          have hB0 := bytes_below (Below.refl w.heap.size w) (Nat.le_refl _) 5 s
          by_cases z3 : bt s 0 = 48
          · have z4 : ¬ (1 < s.size) := fun h => z1 ⟨z3, h⟩
            have z4b : decide (1 < (s.size : Int)) = false := by simp; omega
            clear z1
            go_wp2
            generalize Lib.bytesWorld w 5 s = W1 at *
            clear kb hy e1 z0 zn z3 z4 z4b
            go_loopw [42, 6, 7] (fun i u o wr => ∃ k : Nat, i = .int .i64 k ∧ k ≤ s.size ∧ Inv s k ∧ u = .int .u64 (nV s k) ∧ o = .bool (ov s k) ∧ ∃ q, wr = W1.drewN q) (fun i _ _ _ => s.size - (intOf i).toNat)
            case atStart => exact ⟨0, rfl, by omega, Inv.zero _, rfl, rfl, 0, rfl⟩
            case round =>
              obtain ⟨k, rfl, hk, hI, rfl, rfl, q, rfl⟩ := hrel
              by_cases hlt : k < s.size
              · obtain ⟨ad, had, hcx⟩ := hrd.at_ k (by omega) (by omega)
                cases had
                rw [Int.toNat_natCast, add_plain, rd_bytesOf] at hcx
                have q0 : (0 : Int) ≤ (k : Int) := by omega
                have q1 : (k : Int) < (s.size : Int) := by omega
                obtain ⟨x0, x1⟩ := bt_range s k
                obtain ⟨u0, u1⟩ := nV_bd s k
                by_cases d0 : bt s k < 48
                · have hb := Lib.hid (ps_bad (r := s) (ng := false) (fun h => by have := (h.2.2 k hlt).1; omega))
                  go_wp2
                  go_returns
                  exact ⟨by rw [hb.out.1, hb.out.2]; rfl, pw_below_drewN hB0 _⟩
                · by_cases d1 : 57 < bt s k
                  · have hb := Lib.hid (ps_bad (r := s) (ng := false) (fun h => by have := (h.2.2 k hlt).2; omega))
                    go_wp2
                    go_returns
                    exact ⟨by rw [hb.out.1, hb.out.2]; rfl, pw_below_drewN hB0 _⟩
                  · have hI2 := Lib.hid (hI.step (by omega) (by omega))
                    clear hI
                    have v0 : 0 ≤ nV s k * 10 % 18446744073709551616 := by omega
                    have v1 : 0 ≤ bt s k - 48 := by omega
                    have g2 := Lib.hid (show nV s (k + 1) = (nV s k * 10 % 18446744073709551616 + (bt s k - 48)) % 18446744073709551616 from rfl)
                    have g3 := Lib.hid (show ov s (k + 1) = ((ov s k || nV s k * 10 / 18446744073709551616 != 0) || (nV s k * 10 % 18446744073709551616 + (bt s k - 48)) / 18446744073709551616 != 0) from rfl)
                    generalize ov s k = ob at *
                    cases ob
                    all_goals
                      go_wp2_with fail
                      (with_reducible refine (mul10 _ _ u0 u1).mono ?_)
                      rintro e W2 ⟨rfl, rfl⟩
                      go_wp2_with (rw [add64 _ _ _ v0 v1 (Int.le_refl 0) (by decide)])
                      all_goals
                        go_roundw
                        case rel => exact ⟨k + 1, by go_num, by omega, hI2.out, by rw [g2.out]; first | rfl | (simp; done), by rw [g3.out]; first | rfl | (simp; done) | (simp [*]; done), _, rfl⟩
                        case measure => simp [intOf] <;> omega
              · obtain rfl : k = s.size := by omega
                obtain ⟨u0, u1⟩ := nV_bd s s.size
                have hok : Okt s false := ⟨Z0.out, fun h => Z1.out ⟨h.1, by simpa using h.2⟩, hI.dg⟩
                have hps := Lib.hid (ps_ok hok)
                cases ho : ov s s.size with
                | true =>
                  have hov := Lib.hid (over_out (ng := false) hI ho)
                  clear hI ho
                  go_wp2
                  go_returns
                  exact ⟨by rw [hps.out.1, hps.out.2, hov.out.1, hov.out.2]; rfl, pw_below_drewN hB0 _⟩
                | false =>
                  have hlow := Lib.hid (hI.low ho)
                  clear hI ho
                  go_wp2_with (go_at_call 34; (with_reducible refine (signedI _ _ u0 u1 _).mono ?_); rintro e W2 ⟨rfl, rfl⟩)
                  go_ret2
                  exact ⟨by rw [hps.out.1, hps.out.2]; unfold sgI numT; rw [hlow.out]; rfl, pw_below_drewN hB0 _⟩
          · have z3b : (bt s 0 == 48) = false := by simpa using z3
            clear z1
            go_wp2
            generalize Lib.bytesWorld w 5 s = W1 at *
            clear kb hy e1 z0 zn z3 z3b
            go_loopw [42, 6, 7] (fun i u o wr => ∃ k : Nat, i = .int .i64 k ∧ k ≤ s.size ∧ Inv s k ∧ u = .int .u64 (nV s k) ∧ o = .bool (ov s k) ∧ ∃ q, wr = W1.drewN q) (fun i _ _ _ => s.size - (intOf i).toNat)
            case atStart => exact ⟨0, rfl, by omega, Inv.zero _, rfl, rfl, 0, rfl⟩
            case round =>
              obtain ⟨k, rfl, hk, hI, rfl, rfl, q, rfl⟩ := hrel
              by_cases hlt : k < s.size
              · obtain ⟨ad, had, hcx⟩ := hrd.at_ k (by omega) (by omega)
                cases had
                rw [Int.toNat_natCast, add_plain, rd_bytesOf] at hcx
                have q0 : (0 : Int) ≤ (k : Int) := by omega
                have q1 : (k : Int) < (s.size : Int) := by omega
                obtain ⟨x0, x1⟩ := bt_range s k
                obtain ⟨u0, u1⟩ := nV_bd s k
                by_cases d0 : bt s k < 48
                · have hb := Lib.hid (ps_bad (r := s) (ng := false) (fun h => by have := (h.2.2 k hlt).1; omega))
                  go_wp2
                  go_returns
                  exact ⟨by rw [hb.out.1, hb.out.2]; rfl, pw_below_drewN hB0 _⟩
                · by_cases d1 : 57 < bt s k
                  · have hb := Lib.hid (ps_bad (r := s) (ng := false) (fun h => by have := (h.2.2 k hlt).2; omega))
                    go_wp2
                    go_returns
                    exact ⟨by rw [hb.out.1, hb.out.2]; rfl, pw_below_drewN hB0 _⟩
                  · have hI2 := Lib.hid (hI.step (by omega) (by omega))
                    clear hI
                    have v0 : 0 ≤ nV s k * 10 % 18446744073709551616 := by omega
                    have v1 : 0 ≤ bt s k - 48 := by omega
                    have g2 := Lib.hid (show nV s (k + 1) = (nV s k * 10 % 18446744073709551616 + (bt s k - 48)) % 18446744073709551616 from rfl)
                    have g3 := Lib.hid (show ov s (k + 1) = ((ov s k || nV s k * 10 / 18446744073709551616 != 0) || (nV s k * 10 % 18446744073709551616 + (bt s k - 48)) / 18446744073709551616 != 0) from rfl)
                    generalize ov s k = ob at *
                    cases ob
                    all_goals
                      go_wp2_with fail
                      (with_reducible refine (mul10 _ _ u0 u1).mono ?_)
                      rintro e W2 ⟨rfl, rfl⟩
                      go_wp2_with (rw [add64 _ _ _ v0 v1 (Int.le_refl 0) (by decide)])
                      all_goals
                        go_roundw
                        case rel => exact ⟨k + 1, by go_num, by omega, hI2.out, by rw [g2.out]; first | rfl | (simp; done), by rw [g3.out]; first | rfl | (simp; done) | (simp [*]; done), _, rfl⟩
                        case measure => simp [intOf] <;> omega
              · obtain rfl : k = s.size := by omega
                obtain ⟨u0, u1⟩ := nV_bd s s.size
                have hok : Okt s false := ⟨Z0.out, fun h => Z1.out ⟨h.1, by simpa using h.2⟩, hI.dg⟩
                have hps := Lib.hid (ps_ok hok)
                cases ho : ov s s.size with
                | true =>
                  have hov := Lib.hid (over_out (ng := false) hI ho)
                  clear hI ho
                  go_wp2
                  go_returns
                  exact ⟨by rw [hps.out.1, hps.out.2, hov.out.1, hov.out.2]; rfl, pw_below_drewN hB0 _⟩
                | false =>
                  have hlow := Lib.hid (hI.low ho)
                  clear hI ho
                  go_wp2_with (go_at_call 34; (with_reducible refine (signedI _ _ u0 u1 _).mono ?_); rintro e W2 ⟨rfl, rfl⟩)
                  go_ret2
                  exact ⟨by rw [hps.out.1, hps.out.2]; unfold sgI numT; rw [hlow.out]; rfl, pw_below_drewN hB0 _⟩
      · have e1 := empty_yes (s := s) (by omega)
        have hb := Lib.hid (ps_bad (r := s) (ng := false) (fun h => z0 h.1))
        go_wp2
        go_returns
        exact ⟨by rw [hb.out.1, hb.out.2]; rfl, Below.refl _ _⟩
    · have e0 := empty_yes (s := s) (by omega)
      have hb := Lib.hid (ps_bad (r := s) (ng := false) (fun h => h0 h.1))
      go_enter Try.func29, Try.ntmps29
      go_wp2
      go_returns
      exact ⟨by rw [hb.out.1, hb.out.2]; rfl, Below.refl _ _⟩
end Go.Proofs.Ytchjlcchggeonaa.HP
