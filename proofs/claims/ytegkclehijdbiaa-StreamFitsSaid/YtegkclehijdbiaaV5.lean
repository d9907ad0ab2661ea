import Derived.Test.YtegkclehijdbiaaV4
set_option linter.unusedSimpArgs false
set_option linter.unusedVariables false
namespace Go.Proofs.Ytegkclehijdbiaa.V5
open Go.RowKit Go.Proofs.YtegkclehijdbiaaW.PrintWords Go.Proofs.YtegkclehijdbiaaW.PrintLast Go.Proofs.Ytegkclehijdbiaa.V1 Go.Proofs.Ytegkclehijdbiaa.V2 Go.Proofs.Ytegkclehijdbiaa.V3 Go.Proofs.Ytegkclehijdbiaa.V4

def witB (n lo hi : Int) : Bool := decide (lo ≤ n) && decide (n ≤ hi)
set_option maxHeartbeats 400000 in
theorem within110 (n lo hi : Int) (w : World) : Calls Try.prog 110 #[.int .i64 n, .int .i64 lo, .int .i64 hi] w fun e w' => e = .returned (.bool (witB n lo hi)) ∧ w = w' := by
  have hv := Lib.hid (show witB n lo hi = (decide (lo ≤ n) && decide (n ≤ hi)) from rfl)
  generalize witB n lo hi = b at *
  by_cases l1 : lo ≤ n <;> by_cases l2 : n ≤ hi
  all_goals
    go_enter Try.func110, Try.ntmps110
    go_wp2
    all_goals
      go_ret
      exact ⟨by rw [hv.out]; simp [l1, l2], rfl⟩

/-- Two texts are the same, as the machine tells it. -/
def eqS (a b : ByteArray) : Bool := a.toList == b.toList
theorem eqS_comm (a b : ByteArray) : eqS a b = eqS b a := by unfold eqS; exact BEq.comm
set_option maxHeartbeats 400000 in
theorem same115 (a b : ByteArray) (i j : Int) (w : World) : Calls Try.prog 115 #[.agg #[.string a, .int .i64 i], .agg #[.string b, .int .i64 j]] w fun e w' => e = .returned (.bool (eqS a b)) ∧ Below w.heap.size w w' := by
  go_enter Try.func115, Try.ntmps115
  go_wp2
  go_ret
  exact ⟨rfl, by go_grown⟩

/-- No column ahead of it has its name; no two have the same. -/
def noneB (cs : List Cl) (i : Nat) : Nat → Bool
  | 0 => true
  | j + 1 => noneB cs i j && !eqS (el cs i).s (el cs j).s
def distB (cs : List Cl) : Nat → Bool
  | 0 => true
  | k + 1 => distB cs k && noneB cs k k
theorem noneB_no {cs : List Cl} {i j : Nat} (h : eqS (el cs i).s (el cs j).s = true) : ∀ {n : Nat}, j < n → noneB cs i n = false
  | n + 1, hk => by
    by_cases e : j = n
    · subst e; simp only [noneB, h, Bool.not_true, Bool.and_false]
    · simp only [noneB, noneB_no h (n := n) (by omega), Bool.false_and]
theorem distB_no {cs : List Cl} {k : Nat} (h : noneB cs k k = false) : ∀ {n : Nat}, k < n → distB cs n = false
  | n + 1, hk => by
    by_cases e : k = n
    · subst e; simp only [distB, h, Bool.and_false]
    · simp only [distB, distB_no h (n := n) (by omega), Bool.false_and]

set_option maxHeartbeats 2000000 in
theorem unlike114 (A : Option Addr) (n c : Nat) (cs : List Cl) (w : World) (hc : RdC w A n cs) (hnc : n ≤ c) (hcm : c ≤ 9223372036854775807) : Calls Try.prog 114 #[.slice A n c, .func (.func 115) #[] #[]] w fun e w' => e = .returned (.bool (distB cs n)) ∧ Below w.heap.size w w' := by
  have hn := hc.2.1
  go_enter Try.func114, Try.ntmps114
  go_wp2
  go_loopw [11] (fun i wr => ∃ k : Nat, i = .int .i64 k ∧ k ≤ n ∧ Hid (distB cs k = true) ∧ Below w.heap.size w wr) (fun i _ => n - (intOf i).toNat)
  case atStart => exact ⟨0, rfl, by omega, rfl, Below.refl _ _⟩
  case round =>
    obtain ⟨k, rfl, hk, hok, bel⟩ := hrel
    by_cases hlt : k < n
    · obtain ⟨g, o, rfl, ⟨c0, c1, hf⟩, q2⟩ := (rdC_below hc bel).at_ hlt
      have q0 : (0 : Int) ≤ (k : Int) := by omega
      have q1 : (k : Int) < (n : Int) := by omega
      have q3 : (k : Int) ≤ (c : Int) := by omega
      have q4 : (c : Int) ≤ 9223372036854775807 := by omega
      go_upto_region 4 with fail
      have P1 : Below wr.heap.size wr (wr.alloc (.cells #[.string (el cs k).s, .int .i64 (el cs k).k] 109)) := by go_grown
      have e0 : (wr.alloc (.cells #[.string (el cs k).s, .int .i64 (el cs k).k] 109)).cell? ⟨wr.heap.size, 0, none⟩ = some (.string (el cs k).s) := by go_simp
      have e1 : (wr.alloc (.cells #[.string (el cs k).s, .int .i64 (el cs k).k] 109)).cell? ⟨wr.heap.size, 1, none⟩ = some (.int .i64 (el cs k).k) := by go_simp
      have P2 := bel.trans (P1.mono bel.size)
      clear c0 c1 P1
      generalize wr.alloc (.cells #[.string (el cs k).s, .int .i64 (el cs k).k] 109) = X at *
      generalize wr.heap.size = gs at *
      go_wp2
      go_loopw [20] (fun i wy => ∃ j : Nat, i = .int .i64 j ∧ j ≤ k ∧ Hid (noneB cs k j = true) ∧ Below X.heap.size X wy) (fun i _ => k - (intOf i).toNat)
      case atStart => exact ⟨0, rfl, by omega, rfl, Below.refl _ _⟩
      case round =>
        obtain ⟨j, rfl, hj, hnj, bel2⟩ := hrel
        have f0 := pw_cell_below bel2 e0
        have f1 := pw_cell_below bel2 e1
        clear e0 e1
        have P3 := P2.trans (bel2.mono P2.size)
        by_cases hltj : j < k
        · obtain ⟨g', o', hgo, ⟨d0, d1, hf'⟩, q5⟩ := (rdC_below hc P3).at_ (show j < n by omega)
          cases hgo
          have q6 : (0 : Int) ≤ (j : Int) := by omega
          have q7 : (j : Int) < (k : Int) := by omega
          go_upto_region 7 with fail
          have P4 : Below wr.heap.size wr (wr.alloc (.cells #[.string (el cs j).s, .int .i64 (el cs j).k] 109)) := by go_grown
          have h0 : (wr.alloc (.cells #[.string (el cs j).s, .int .i64 (el cs j).k] 109)).cell? ⟨wr.heap.size, 0, none⟩ = some (.string (el cs j).s) := by go_simp
          have h1 : (wr.alloc (.cells #[.string (el cs j).s, .int .i64 (el cs j).k] 109)).cell? ⟨wr.heap.size, 1, none⟩ = some (.int .i64 (el cs j).k) := by go_simp
          have i0 := pw_cell_below P4 f0
          have i1 := pw_cell_below P4 f1
          have P5 := bel2.trans (P4.mono bel2.size)
          clear f0 f1 d0 d1 P4
          generalize wr.alloc (.cells #[.string (el cs j).s, .int .i64 (el cs j).k] 109) = Y at *
          generalize wr.heap.size = gy at *
          go_wp2_with fail
          (with_reducible refine (same115 (el cs k).s (el cs j).s (el cs k).k (el cs j).k _).mono ?_)
          rintro e Z ⟨rfl, hB⟩
          have P6 := P5.trans (hB.mono P5.size)
          clear h0 h1 i0 i1
          cases he : eqS (el cs k).s (el cs j).s with
          | false =>
            have hok2 : Hid (noneB cs k (j + 1) = true) := by show _ = _; simp only [noneB, hnj.out, he]; rfl
            go_wp2
            go_roundw
            case rel => exact ⟨j + 1, by go_num, by omega, hok2, P6⟩
            case measure => simp [intOf] <;> omega
          | true =>
            have hF : Hid (distB cs n = false) := distB_no (noneB_no he hltj) hlt
            go_wp2
            go_ret
            exact ⟨by rw [hF.out]; rfl, P2.trans (P6.mono P2.size)⟩
        · obtain rfl : j = k := by omega
          have hok2 : Hid (distB cs (j + 1) = true) := by show _ = _; simp only [distB, hok.out, hnj.out]; rfl
          clear f0 f1
          go_wp2
          go_roundw
          case rel => exact ⟨j + 1, by go_num, by omega, hok2, P3⟩
          case measure => simp [intOf] <;> omega
    · obtain rfl : k = n := by omega
      go_wp2
      go_ret
      exact ⟨by rw [hok.out]; rfl, bel⟩

/-- A column is right. -/
def colB (c : Cl) : Bool := namB c.s && witB c.k 1 3
def allC (cs : List Cl) : Nat → Bool
  | 0 => true
  | k + 1 => allC cs k && colB (el cs k)
theorem allC_no {cs : List Cl} {k : Nat} (h : colB (el cs k) = false) : ∀ {n : Nat}, k < n → allC cs n = false
  | n + 1, hk => by
    by_cases e : k = n
    · subst e; simp only [allC, h, Bool.and_false]
    · simp only [allC, allC_no h (n := n) (by omega), Bool.false_and]
def colsB (cs : List Cl) : Bool := allC cs cs.length && witB cs.length 1 8 && distB cs cs.length

set_option maxHeartbeats 2000000 in
/-- schema.columns. -/
theorem columns108 (A : Option Addr) (n c : Nat) (cs : List Cl) (w : World) (hc : RdC w A n cs) (hnc : n ≤ c) (hcm : c ≤ 9223372036854775807) : Calls Try.prog 108 #[.slice A n c] w fun e w' => e = .returned (.bool (colsB cs)) ∧ Below w.heap.size w w' := by
  have hn := hc.2.1
  have hv := Lib.hid (show colsB cs = (allC cs cs.length && witB cs.length 1 8 && distB cs cs.length) from rfl)
  rw [hc.1] at hv
  go_enter Try.func108, Try.ntmps108
  go_wp2
  go_loopw [7] (fun i wr => ∃ k : Nat, i = .int .i64 k ∧ k ≤ n ∧ Hid (allC cs k = true) ∧ Below w.heap.size w wr) (fun i _ => n - (intOf i).toNat)
  case atStart => exact ⟨0, rfl, by omega, rfl, Below.refl _ _⟩
  case round =>
    obtain ⟨k, rfl, hk, hok, bel⟩ := hrel
    by_cases hlt : k < n
    · obtain ⟨g, o, rfl, ⟨c0, c1, hf⟩, q2⟩ := (rdC_below hc bel).at_ hlt
      have hf := Lib.hid hf
      have q0 : (0 : Int) ≤ (k : Int) := by omega
      have q1 : (k : Int) < (n : Int) := by omega
      have hcb := Lib.hid (show colB (el cs k) = (namB (el cs k).s && witB (el cs k).k 1 3) from rfl)
      go_upto_region 4 with fail
      have P1 : Below wr.heap.size wr (wr.alloc (.cells #[.string (el cs k).s, .int .i64 (el cs k).k] 109)) := by go_grown
      have e0 : (wr.alloc (.cells #[.string (el cs k).s, .int .i64 (el cs k).k] 109)).cell? ⟨wr.heap.size, 0, none⟩ = some (.string (el cs k).s) := by go_simp
      have e1 : (wr.alloc (.cells #[.string (el cs k).s, .int .i64 (el cs k).k] 109)).cell? ⟨wr.heap.size, 1, none⟩ = some (.int .i64 (el cs k).k) := by go_simp
      have P2 := bel.trans (P1.mono bel.size)
      clear c0 c1 P1
      generalize wr.alloc (.cells #[.string (el cs k).s, .int .i64 (el cs k).k] 109) = X at *
      generalize wr.heap.size = gs at *
      go_wp2_with fail
      (with_reducible refine (named107 (el cs k).s _ hf.out.s1).mono ?_)
      rintro e Y ⟨rfl, hB⟩
      have P3 := P2.trans (hB.mono P2.size)
      have e1 := pw_cell_below hB e1
      clear e0
      cases hnm : namB (el cs k).s with
      | false =>
        have hF : Hid (colsB cs = false) := by show _ = _; rw [hv.out, allC_no (by rw [hcb.out, hnm]; rfl) hlt]; rfl
        go_wp2
        go_ret
        exact ⟨by rw [hF.out]; rfl, P3⟩
      | true =>
        go_wp2_with fail
        (with_reducible refine (within110 (el cs k).k 1 3 _).mono ?_)
        rintro e Z ⟨rfl, rfl⟩
        cases hw : witB (el cs k).k 1 3 with
        | false =>
          have hF : Hid (colsB cs = false) := by show _ = _; rw [hv.out, allC_no (by rw [hcb.out, hw]; simp) hlt]; rfl
          go_wp2
          go_ret
          exact ⟨by rw [hF.out]; rfl, P3⟩
        | true =>
          have hok2 : Hid (allC cs (k + 1) = true) := by show _ = _; simp only [allC, hok.out, hcb.out, hnm, hw]; rfl
          clear e1
          go_wp2
          go_roundw
          case rel => exact ⟨k + 1, by go_num, by omega, hok2, P3⟩
          case measure => simp [intOf] <;> omega
    · obtain rfl : k = n := by omega
      go_wp2_with fail
      (with_reducible refine (within110 k 1 8 _).mono ?_)
      rintro e Z ⟨rfl, rfl⟩
      cases hw : witB k 1 8 with
      | false =>
        have hF : Hid (colsB cs = false) := by show _ = _; rw [hv.out, hok.out, hw]; rfl
        go_wp2
        go_ret
        exact ⟨by rw [hF.out]; rfl, bel⟩
      | true =>
        go_wp2_with fail
        (with_reducible refine (unlike114 A k c cs _ (rdC_below hc bel) hnc hcm).mono ?_)
        rintro e Z ⟨rfl, hB⟩
        have hF : Hid (colsB cs = distB cs k) := by show _ = _; rw [hv.out, hok.out, hw]; rfl
        go_wp2
        go_ret
        exact ⟨by rw [hF.out]; rfl, bel.trans (hB.mono bel.size)⟩
end Go.Proofs.Ytegkclehijdbiaa.V5
