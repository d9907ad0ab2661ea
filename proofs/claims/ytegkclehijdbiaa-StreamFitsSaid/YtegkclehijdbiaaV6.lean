import Derived.Test.YtegkclehijdbiaaV5
set_option linter.unusedSimpArgs false
set_option linter.unusedVariables false
namespace Go.Proofs.Ytegkclehijdbiaa.V6
open Go.RowKit Go.Proofs.YtegkclehijdbiaaW.PrintWords Go.Proofs.YtegkclehijdbiaaW.PrintLast Go.Proofs.Ytegkclehijdbiaa.V1 Go.Proofs.Ytegkclehijdbiaa.V2 Go.Proofs.Ytegkclehijdbiaa.V3 Go.Proofs.Ytegkclehijdbiaa.V4 Go.Proofs.Ytegkclehijdbiaa.V5

/-- The one index that a stream has. -/
structure Ix (w : World) (gi gj : Nat) : Prop where
  c0 : w.cell? ⟨gi, 0, none⟩ = some (.slice (some ⟨gj, 0, none⟩) 1 1)
  c1 : w.cell? ⟨gi, 1, none⟩ = some (.bool true)
  c2 : w.cell? ⟨gj, 0, none⟩ = some (.int .i64 0)
theorem Ix.below {w w' : World} {gi gj : Nat} (h : Ix w gi gj) (hb : Below w.heap.size w w') : Ix w' gi gj := ⟨pw_cell_below hb h.c0, pw_cell_below hb h.c1, pw_cell_below hb h.c2⟩

set_option maxHeartbeats 1000000 in
theorem unlike120 (gj : Nat) (w : World) (h : w.cell? ⟨gj, 0, none⟩ = some (.int .i64 0)) : Calls Try.prog 120 #[.slice (some ⟨gj, 0, none⟩) 1 1, .func (.func 121) #[] #[]] w fun e w' => e = .returned (.bool true) ∧ Below w.heap.size w w' := by
  go_enter Try.func120, Try.ntmps120
  go_wp2
  go_loopw [11] (fun i wr => ∃ k : Nat, i = .int .i64 k ∧ k ≤ 1 ∧ ∃ q, wr = w.drewN q) (fun i _ => 1 - (intOf i).toNat)
  case atStart => exact ⟨0, rfl, by omega, 0, rfl⟩
  case round =>
    obtain ⟨k, rfl, hk, q, rfl⟩ := hrel
    by_cases hlt : k = 0
    · subst hlt
      go_wp2
      go_loopw [20] (fun i wr => i = .int .i64 0 ∧ ∃ q, wr = w.drewN q) (fun i _ => 0)
      case atStart => exact ⟨rfl, _, rfl⟩
      case round =>
        obtain ⟨rfl, q, rfl⟩ := hrel
        go_wp2
        go_roundw
        case rel => exact ⟨1, by go_num, by omega, _, rfl⟩
        case measure => simp [intOf] <;> omega
    · obtain rfl : k = 1 := by omega
      go_wp2
      go_ret
      exact ⟨rfl, pw_below_drewN (Below.refl _ _) _⟩

set_option maxHeartbeats 1000000 in
theorem unlike117 (gi gj : Nat) (w : World) (h : Ix w gi gj) : Calls Try.prog 117 #[.slice (some ⟨gi, 0, none⟩) 1 1, .func (.func 118) #[] #[]] w fun e w' => e = .returned (.bool true) ∧ Below w.heap.size w w' := by
  go_enter Try.func117, Try.ntmps117
  go_wp2
  go_loopw [11] (fun i wr => ∃ k : Nat, i = .int .i64 k ∧ k ≤ 1 ∧ Below w.heap.size w wr) (fun i _ => 1 - (intOf i).toNat)
  case atStart => exact ⟨0, rfl, by omega, Below.refl _ _⟩
  case round =>
    obtain ⟨k, rfl, hk, bel⟩ := hrel
    by_cases hlt : k = 0
    · subst hlt
      obtain ⟨c0, c1, c2⟩ := h.below bel
      go_upto_region 4 with fail
      have P2 : Below w.heap.size w (wr.alloc (.cells #[.slice (some ⟨gj, 0, none⟩) 1 1, .bool true] 117)) := bel.alloc bel.size _
      clear c0 c1 c2
      generalize wr.alloc (.cells #[.slice (some ⟨gj, 0, none⟩) 1 1, .bool true] 117) = X at *
      generalize wr.heap.size = gs at *
      go_wp2
      go_loopw [20] (fun i wr => i = .int .i64 0 ∧ ∃ q, wr = X.drewN q) (fun i _ => 0)
      case atStart => exact ⟨rfl, 0, rfl⟩
      case round =>
        obtain ⟨rfl, q, rfl⟩ := hrel
        go_wp2
        go_roundw
        case rel => exact ⟨1, by go_num, by omega, pw_below_drewN P2 _⟩
        case measure => simp [intOf] <;> omega
    · obtain rfl : k = 1 := by omega
      go_wp2
      go_ret
      exact ⟨rfl, bel⟩

set_option maxHeartbeats 1000000 in
theorem places116 (gj : Nat) (n : Nat) (w : World) (h : w.cell? ⟨gj, 0, none⟩ = some (.int .i64 0)) (hn : 1 ≤ n) (hn2 : n ≤ 9223372036854775807) : Calls Try.prog 116 #[.agg #[.slice (some ⟨gj, 0, none⟩) 1 1, .bool true], .int .i64 n] w fun e w' => e = .returned (.bool true) ∧ Below w.heap.size w w' := by
  have f0 : (w.alloc (.cells #[.slice (some ⟨gj, 0, none⟩) 1 1, .bool true] 117)).cell? ⟨w.heap.size, 0, none⟩ = some (.slice (some ⟨gj, 0, none⟩) 1 1) := by go_simp
  have P0 : Below w.heap.size w (w.alloc (.cells #[.slice (some ⟨gj, 0, none⟩) 1 1, .bool true] 117)) := by go_grown
  have h := pw_cell_below P0 h
  have q0 : (1 : Int) ≤ (n : Int) := by omega
  have hwt : witB 0 0 ((n : Int) - 1) = true := by simp [witB]; omega
  go_enter Try.func116, Try.ntmps116
  go_wp2
  generalize w.alloc (.cells #[.slice (some ⟨gj, 0, none⟩) 1 1, .bool true] 117) = W0 at *
  go_loopw [10] (fun i wr => ∃ k : Nat, i = .int .i64 k ∧ k ≤ 1 ∧ ∃ q, wr = W0.drewN q) (fun i _ => 1 - (intOf i).toNat)
  case atStart => exact ⟨0, rfl, by omega, 0, rfl⟩
  case round =>
    obtain ⟨k, rfl, hk, q, rfl⟩ := hrel
    by_cases hlt : k = 0
    · subst hlt
      go_wp2_with fail
      (with_reducible refine (within110 _ _ _ _).mono ?_)
      rintro e Z ⟨rfl, rfl⟩
      rw [hwt]
      go_wp2
      go_roundw
      case rel => exact ⟨1, by go_num, by omega, _, rfl⟩
      case measure => simp [intOf] <;> omega
    · obtain rfl : k = 1 := by omega
      go_wp2_with fail
      (with_reducible refine (unlike120 gj _ (pw_cell_below (pw_below_drewN (Below.refl _ _) _) h)).mono ?_)
      rintro e Z ⟨rfl, hB⟩
      go_wp2
      go_ret
      exact ⟨rfl, P0.trans (((pw_below_drewN (Below.refl _ _) _).trans hB).mono P0.size)⟩

set_option maxHeartbeats 1000000 in
theorem indexes109 (gi gj : Nat) (n : Nat) (w : World) (h : Ix w gi gj) (hn : 1 ≤ n) (hn2 : n ≤ 9223372036854775807) : Calls Try.prog 109 #[.slice (some ⟨gi, 0, none⟩) 1 1, .int .i64 n] w fun e w' => e = .returned (.bool true) ∧ Below w.heap.size w w' := by
  go_enter Try.func109, Try.ntmps109
  go_wp2
  go_loopw [9] (fun i wr => ∃ k : Nat, i = .int .i64 k ∧ k ≤ 1 ∧ Below w.heap.size w wr) (fun i _ => 1 - (intOf i).toNat)
  case atStart => exact ⟨0, rfl, by omega, Below.refl _ _⟩
  case round =>
    obtain ⟨k, rfl, hk, bel⟩ := hrel
    by_cases hlt : k = 0
    · subst hlt
      obtain ⟨c0, c1, c2⟩ := h.below bel
      go_upto_region 4 with fail
      have P1 : Below wr.heap.size wr (wr.alloc (.cells #[.slice (some ⟨gj, 0, none⟩) 1 1, .bool true] 117)) := by go_grown
      have e0 : (wr.alloc (.cells #[.slice (some ⟨gj, 0, none⟩) 1 1, .bool true] 117)).cell? ⟨wr.heap.size, 0, none⟩ = some (.slice (some ⟨gj, 0, none⟩) 1 1) := by go_simp
      have e1 : (wr.alloc (.cells #[.slice (some ⟨gj, 0, none⟩) 1 1, .bool true] 117)).cell? ⟨wr.heap.size, 1, none⟩ = some (.bool true) := by go_simp
      have e2 := pw_cell_below P1 c2
      have P2 := bel.trans (P1.mono bel.size)
      clear c0 c1 c2 P1
      generalize wr.alloc (.cells #[.slice (some ⟨gj, 0, none⟩) 1 1, .bool true] 117) = X at *
      generalize wr.heap.size = gs at *
      go_wp2_with fail
      (with_reducible refine (places116 gj n _ e2 hn hn2).mono ?_)
      rintro e Z ⟨rfl, hB⟩
      clear e0 e1 e2
      go_wp2
      go_roundw
      case rel => exact ⟨1, by go_num, by omega, P2.trans (hB.mono P2.size)⟩
      case measure => simp [intOf] <;> omega
    · obtain rfl : k = 1 := by omega
      have hI := h.below bel
      obtain ⟨c0, c1, c2⟩ := h.below bel
      go_wp2_with fail
      (with_reducible refine (within110 _ _ _ _).mono ?_)
      rintro e Z ⟨rfl, rfl⟩
      rw [show witB 1 1 4 = true by decide]
      go_wp2_with fail
      (with_reducible refine (unlike117 gi gj _ hI).mono ?_)
      rintro e Z ⟨rfl, hB⟩
      go_wp2
      go_ret
      exact ⟨rfl, bel.trans (hB.mono bel.size)⟩

/-- A stream is right. -/
def rightB (nm : ByteArray) (cs : List Cl) : Bool := namB nm && colsB cs
theorem cols_len {cs : List Cl} (h : colsB cs = true) : 1 ≤ cs.length ∧ cs.length ≤ 8 := by
  simp only [colsB, Bool.and_eq_true, witB, decide_eq_true_eq] at h
  omega
set_option maxHeartbeats 2000000 in
/-- schema.Right, of a stream's schema. -/
theorem right104 (nm : ByteArray) (A : Option Addr) (n c gi gj : Nat) (cs : List Cl) (w : World) (hnm : nm.size ≤ 9223372036854775807) (hc : RdC w A n cs) (hnc : n ≤ c) (hcm : c ≤ 9223372036854775807) (hI : Ix w gi gj) :
    Calls Try.prog 104 #[.agg #[.string nm, .slice A n c, .slice (some ⟨gi, 0, none⟩) 1 1, .int .i64 1, .int .i64 1, .int .i64 0]] w fun e w' => e = .returned (.bool (rightB nm cs)) ∧ Below w.heap.size w w' := by
  have hn := hc.2.1
  have hlc := Lib.hid hc.1
  have hv := Lib.hid (show rightB nm cs = (namB nm && colsB cs) from rfl)
  have f1 : (w.alloc (.cells #[.string nm, .slice A n c, .slice (some ⟨gi, 0, none⟩) 1 1, .int .i64 1, .int .i64 1, .int .i64 0] 107)).cell? ⟨w.heap.size, 1, none⟩ = some (.slice A n c) := by go_simp
  have f2 : (w.alloc (.cells #[.string nm, .slice A n c, .slice (some ⟨gi, 0, none⟩) 1 1, .int .i64 1, .int .i64 1, .int .i64 0] 107)).cell? ⟨w.heap.size, 2, none⟩ = some (.slice (some ⟨gi, 0, none⟩) 1 1) := by go_simp
  have f3 : (w.alloc (.cells #[.string nm, .slice A n c, .slice (some ⟨gi, 0, none⟩) 1 1, .int .i64 1, .int .i64 1, .int .i64 0] 107)).cell? ⟨w.heap.size, 3, none⟩ = some (.int .i64 1) := by go_simp
  have f4 : (w.alloc (.cells #[.string nm, .slice A n c, .slice (some ⟨gi, 0, none⟩) 1 1, .int .i64 1, .int .i64 1, .int .i64 0] 107)).cell? ⟨w.heap.size, 4, none⟩ = some (.int .i64 1) := by go_simp
  have f5 : (w.alloc (.cells #[.string nm, .slice A n c, .slice (some ⟨gi, 0, none⟩) 1 1, .int .i64 1, .int .i64 1, .int .i64 0] 107)).cell? ⟨w.heap.size, 5, none⟩ = some (.int .i64 0) := by go_simp
  have P0 : Below w.heap.size w (w.alloc (.cells #[.string nm, .slice A n c, .slice (some ⟨gi, 0, none⟩) 1 1, .int .i64 1, .int .i64 1, .int .i64 0] 107)) := by go_grown
  go_enter Try.func104, Try.ntmps104
  go_wp2_with fail
  generalize w.alloc (.cells #[.string nm, .slice A n c, .slice (some ⟨gi, 0, none⟩) 1 1, .int .i64 1, .int .i64 1, .int .i64 0] 107) = W0 at *
  (with_reducible refine (named107 nm _ hnm).mono ?_)
  rintro e W1 ⟨rfl, hB1⟩
  have g1 := pw_cell_below hB1 f1
  have g2 := pw_cell_below hB1 f2
  have P1 := P0.trans (hB1.mono P0.size)
  cases hnb : namB nm with
  | false =>
    have hF : Hid (rightB nm cs = false) := by show _ = _; rw [hv.out, hnb]; rfl
    go_wp2
    go_ret
    exact ⟨by rw [hF.out]; rfl, P1⟩
  | true =>
    go_wp2_with fail
    (with_reducible refine (columns108 A n c cs _ (rdC_below hc P1) hnc hcm).mono ?_)
    rintro e W2 ⟨rfl, hB2⟩
    have P2 := P1.trans (hB2.mono P1.size)
    have hB02 := hB1.trans (hB2.mono hB1.size)
    have g1 := pw_cell_below hB02 f1
    have g2 := pw_cell_below hB02 f2
    cases hcb : colsB cs with
    | false =>
      have hF : Hid (rightB nm cs = false) := by show _ = _; rw [hv.out, hcb]; simp
      go_wp2
      go_ret
      exact ⟨by rw [hF.out]; rfl, P2⟩
    | true =>
      have hF : Hid (rightB nm cs = true) := by show _ = _; rw [hv.out, hcb, hnb]; rfl
      obtain ⟨m1, m2⟩ := cols_len hcb
      rw [hlc.out] at m1 m2
      have q0 : (1 : Int) ≤ (n : Int) := by omega
      have q1 : (n : Int) ≤ 8 := by omega
      go_wp2_with fail
      (with_reducible refine (indexes109 gi gj n _ (hI.below P2) m1 hn).mono ?_)
      rintro e W3 ⟨rfl, hB3⟩
      have P3 := P2.trans (hB3.mono P2.size)
      have hB03 := hB02.trans (hB3.mono hB02.size)
      have g1 := pw_cell_below hB03 f1
      have g3 := pw_cell_below hB03 f3
      have g4 := pw_cell_below hB03 f4
      have g5 := pw_cell_below hB03 f5
      clear f1 f2 f3 f4 f5 g2
      go_wp2_with fail
      (with_reducible refine (within110 _ _ _ _).mono ?_)
      rintro e Z ⟨rfl, rfl⟩
      rw [show witB 1 1 1000 = true by decide]
      go_wp2_with fail
      (with_reducible refine (within110 _ _ _ _).mono ?_)
      rintro e Z ⟨rfl, rfl⟩
      rw [show witB 1 1 8 = true by decide]
      go_wp2_with fail
      (with_reducible refine (within110 _ _ _ _).mono ?_)
      rintro e Z ⟨rfl, rfl⟩
      rw [show witB 0 0 ((n : Int) - 1) = true by simp [witB]; omega]
      go_wp2
      go_ret
      exact ⟨by rw [hF.out]; rfl, P3⟩

theorem get_new (w : World) (o : Obj) (g : Nat) (h : g = w.heap.size) : (w.alloc o).heap[g]? = some o := by
  subst h; show (w.heap.push o)[w.heap.size]? = _; simp
theorem get_old (w : World) (o : Obj) (g : Nat) (h : g < w.heap.size) : (w.alloc o).heap[g]? = w.heap[g]? := by
  show (w.heap.push o)[g]? = _; rw [Array.getElem?_push]; simp [show g ≠ w.heap.size by omega]
set_option maxHeartbeats 1000000 in
/-- columns.right. -/
theorem right94 (nm : ByteArray) (A : Option Addr) (n c : Nat) (cs : List Cl) (w : World) (hnm : nm.size ≤ 9223372036854775807) (hc : RdC w A n cs) (hnc : n ≤ c) (hcm : c ≤ 9223372036854775807) :
    Calls Try.prog 94 #[.agg #[.string nm, .slice A n c]] w fun e w' => e = .returned (.bool (rightB nm cs)) ∧ Below w.heap.size w w' := by
  go_enter Try.func94, Try.ntmps94
  go_wp2_with fail
  have I0 : Ix (((w.alloc (.cells #[.string nm, .slice A n c] 111)).alloc (.cells #[.int .i64 0] 3)).alloc (.cells #[.slice (some ⟨w.heap.size + 1, 0, none⟩) 1 1, .bool true] 117)) (w.heap.size + 1 + 1) (w.heap.size + 1) := ⟨by go_simp, by go_simp, by go_simp⟩
  have P0 : Below w.heap.size w (((w.alloc (.cells #[.string nm, .slice A n c] 111)).alloc (.cells #[.int .i64 0] 3)).alloc (.cells #[.slice (some ⟨w.heap.size + 1, 0, none⟩) 1 1, .bool true] 117)) := by go_grown
  generalize ((w.alloc (.cells #[.string nm, .slice A n c] 111)).alloc (.cells #[.int .i64 0] 3)).alloc (.cells #[.slice (some ⟨w.heap.size + 1, 0, none⟩) 1 1, .bool true] 117) = W0 at *
  (with_reducible refine (right104 nm A n c _ _ cs _ hnm (rdC_below hc P0) hnc hcm I0).mono ?_)
  rintro e W1 ⟨rfl, hB1⟩
  go_wp2
  go_ret
  exact ⟨rfl, P0.trans (hB1.mono P0.size)⟩
end Go.Proofs.Ytegkclehijdbiaa.V6
