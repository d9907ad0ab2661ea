import Derived.Test.YtegkclehijdbiaaVC
set_option linter.unusedSimpArgs false
set_option linter.unusedVariables false
namespace Go.Proofs.Ytegkclehijdbiaa.VD
open Go.RowKit Go.Proofs.YtegkclehijdbiaaW.PrintWords Go.Proofs.YtegkclehijdbiaaW.PrintLast Go.Proofs.Ytegkclehijdbiaa.V1 Go.Proofs.Ytegkclehijdbiaa.V2 Go.Proofs.Ytegkclehijdbiaa.V3 Go.Proofs.Ytegkclehijdbiaa.V4 Go.Proofs.Ytegkclehijdbiaa.V5 Go.Proofs.Ytegkclehijdbiaa.V6 Go.Proofs.Ytegkclehijdbiaa.V8 Go.Proofs.Ytegkclehijdbiaa.V9 Go.Proofs.Ytegkclehijdbiaa.VA Go.Proofs.Ytegkclehijdbiaa.VB

/-- A batch. -/
structure Bt where
  id : Int
  rows : List (List Vl)
instance : Inhabited Bt := ⟨⟨0, []⟩⟩
def atB (w : World) (g o : Nat) (b : Bt) : Prop := ∃ A n c, w.cell? ⟨g, o, none⟩ = some (.int .i64 b.id) ∧ w.cell? ⟨g, o + 1, none⟩ = some (.slice A n c) ∧ RdR w A n b.rows ∧ n ≤ c ∧ c ≤ 9223372036854775807 ∧ -9223372036854775808 ≤ b.id ∧ b.id ≤ 9223372036854775807
theorem atB.below {w w' : World} {g o : Nat} {b : Bt} (h : atB w g o b) (hb : Below w.heap.size w w') : atB w' g o b := by
  obtain ⟨A, n, c, h1, h2, h3, h4⟩ := h
  exact ⟨A, n, c, pw_cell_below hb h1, pw_cell_below hb h2, rdR_below h3 hb, h4⟩
abbrev RdB := Rd 2 atB
theorem rdB_below {w w' : World} {A : Option Addr} {n : Nat} {l : List Bt} (h : RdB w A n l) (hb : Below w.heap.size w w') : RdB w' A n l := Rd.below (P := atB) (fun h hb => atB.below h hb) h hb

/-- Too great, or not: and then it is small. -/
def GrR (w : World) (Q : Prop) (e : Ending) (w' : World) : Prop := ∃ G : Bool, e = .returned (.bool G) ∧ (G = false → Q) ∧ Below w.heap.size w w'
set_option maxHeartbeats 1000000 in
theorem great25 (A : Option Addr) (n c : Nat) (l : List Vl) (w : World) (hr : RdV w A n l) : Calls Try.prog 25 #[.slice A n c] w (GrR w (n ≤ 30)) := by
  have hn := hr.2.1
  by_cases hb : 30 < n
  · go_enter Try.func25, Try.ntmps25
    go_wp2
    go_ret
    exact ⟨true, rfl, by simp, Below.refl _ _⟩
  · go_enter Try.func25, Try.ntmps25
    go_wp2
    go_loopw [3] (fun i wr => ∃ k : Nat, i = .int .i64 k ∧ k ≤ n ∧ ∃ q, wr = w.drewN q) (fun i _ => n - (intOf i).toNat)
    case atStart => exact ⟨0, rfl, by omega, 0, rfl⟩
    case round =>
      obtain ⟨k, rfl, hk, q, rfl⟩ := hrel
      by_cases hlt : k < n
      · obtain ⟨g, o, rfl, ⟨c0, c1, c2, hf⟩, q2⟩ := hr.at_ hlt
        have q0 : (0 : Int) ≤ (k : Int) := by omega
        have q1 : (k : Int) < (n : Int) := by omega
        have hs := hf.s1
        by_cases hs3 : 300 < (el l k).s.size
        · go_wp2
          go_ret
          exact ⟨true, rfl, by simp, pw_below_drewN (Below.refl _ _) _⟩
        · go_wp2
          go_roundw
          case rel => exact ⟨k + 1, by go_num, by omega, _, rfl⟩
          case measure => simp [intOf] <;> omega
      · obtain rfl : k = n := by omega
        go_wp2
        go_ret
        exact ⟨false, rfl, fun _ => by omega, pw_below_drewN (Below.refl _ _) _⟩
set_option maxHeartbeats 1000000 in
theorem great63 (nm : ByteArray) (A : Option Addr) (n c : Nat) (cs : List Cl) (w : World) (hnm : nm.size ≤ 9223372036854775807) (hc : RdC w A n cs) : Calls Try.prog 63 #[.agg #[.string nm, .slice A n c, .slice none 0 0, .int .i64 0, .int .i64 0, .int .i64 0]] w (GrR w (n ≤ 12)) := by
  have hn := hc.2.1
  have f0 : (w.alloc (.cells #[.string nm, .slice A n c, .slice none 0 0, .int .i64 0, .int .i64 0, .int .i64 0] 107)).cell? ⟨w.heap.size, 0, none⟩ = some (.string nm) := by go_simp
  have f1 : (w.alloc (.cells #[.string nm, .slice A n c, .slice none 0 0, .int .i64 0, .int .i64 0, .int .i64 0] 107)).cell? ⟨w.heap.size, 1, none⟩ = some (.slice A n c) := by go_simp
  have f2 : (w.alloc (.cells #[.string nm, .slice A n c, .slice none 0 0, .int .i64 0, .int .i64 0, .int .i64 0] 107)).cell? ⟨w.heap.size, 2, none⟩ = some (.slice none 0 0) := by go_simp
  have P0 : Below w.heap.size w (w.alloc (.cells #[.string nm, .slice A n c, .slice none 0 0, .int .i64 0, .int .i64 0, .int .i64 0] 107)) := by go_grown
  have hc := rdC_below hc P0
  by_cases hb : 12 < n
  · go_enter Try.func63, Try.ntmps63
    go_wp2
    go_ret
    exact ⟨true, rfl, by simp, P0⟩
  · by_cases hb2 : 100 < nm.size
    · go_enter Try.func63, Try.ntmps63
      go_wp2
      go_ret
      exact ⟨true, rfl, by simp, P0⟩
    · go_enter Try.func63, Try.ntmps63
      go_wp2
      generalize w.alloc (.cells #[.string nm, .slice A n c, .slice none 0 0, .int .i64 0, .int .i64 0, .int .i64 0] 107) = W0 at *
      go_loopw [3] (fun i wr => ∃ k : Nat, i = .int .i64 k ∧ k ≤ n ∧ ∃ q, wr = W0.drewN q) (fun i _ => n - (intOf i).toNat)
      case atStart => exact ⟨0, rfl, by omega, 0, rfl⟩
      case round =>
        obtain ⟨k, rfl, hk, q, rfl⟩ := hrel
        by_cases hlt : k < n
        · obtain ⟨g, o, rfl, ⟨c0, c1, hf⟩, q2⟩ := hc.at_ hlt
          have q0 : (0 : Int) ≤ (k : Int) := by omega
          have q1 : (k : Int) < (n : Int) := by omega
          have hs := hf.s1
          by_cases hs3 : 100 < (el cs k).s.size
          · go_wp2
            go_ret
            exact ⟨true, rfl, by simp, pw_below_drewN P0 _⟩
          · go_wp2
            go_roundw
            case rel => exact ⟨k + 1, by go_num, by omega, _, rfl⟩
            case measure => simp [intOf] <;> omega
        · obtain rfl : k = n := by omega
          go_wp2
          go_loopw [4] (fun i wr => i = .int .i64 0 ∧ ∃ q, wr = W0.drewN q) (fun i _ => 0)
          case atStart => exact ⟨rfl, _, rfl⟩
          case round =>
            obtain ⟨rfl, q, rfl⟩ := hrel
            go_wp2
            go_ret
            exact ⟨false, rfl, fun _ => by omega, pw_below_drewN P0 _⟩

set_option maxRecDepth 8000 in
set_option maxHeartbeats 2000000 in
theorem great12 (nm : ByteArray) (A L : Option Addr) (n c m d : Nat) (cs : List Cl) (bs : List Bt) (w : World) (hnm : nm.size ≤ 9223372036854775807) (hc : RdC w A n cs) (hl : RdB w L m bs) :
    Calls Try.prog 12 #[.agg #[.string nm, .slice A n c], .slice L m d] w (GrR w (n ≤ 12 ∧ m ≤ 40)) := by
  have hm := hl.2.1
  have P0 : Below w.heap.size w (w.alloc (.cells #[.string nm, .slice A n c] 24)) := by go_grown
  have hc := rdC_below hc P0
  have hl := rdB_below hl P0
  go_enter Try.func12, Try.ntmps12
  go_wp2_with fail
  generalize w.alloc (.cells #[.string nm, .slice A n c] 24) = W0 at *
  (with_reducible refine (great63 nm A n c cs _ hnm hc).mono ?_)
  rintro e W1 ⟨G, rfl, hG, hB⟩
  have P1 := P0.trans (hB.mono P0.size)
  have hl := rdB_below hl hB
  clear hc hB
  cases G with
  | true =>
    go_wp2
    go_ret
    exact ⟨true, rfl, by simp, P1⟩
  | false =>
    have hn := Lib.hid (hG rfl)
    clear hG
    by_cases hb : 40 < m
    · go_wp2
      go_ret
      exact ⟨true, rfl, by simp, P1⟩
    · go_wp2
      go_loopw [5] (fun i wr => ∃ k : Nat, i = .int .i64 k ∧ k ≤ m ∧ Below W1.heap.size W1 wr) (fun i _ => m - (intOf i).toNat)
      case atStart => exact ⟨0, rfl, by omega, Below.refl _ _⟩
      case round =>
        obtain ⟨k, rfl, hk, bel⟩ := hrel
        by_cases hlt : k < m
        · obtain ⟨g, o, rfl, ⟨A1, n1, c1, z0, z1, hr, h1, h2, i0, i1⟩, q2⟩ := (rdB_below hl bel).at_ hlt
          have q0 : (0 : Int) ≤ (k : Int) := by omega
          have q1 : (k : Int) < (m : Int) := by omega
          have hn1 := hr.2.1
          have PX := P1.trans (bel.mono P1.size)
          by_cases hb1 : 40 < n1
          · go_wp2
            go_ret
            exact ⟨true, rfl, by simp, PX⟩
          · go_wp2
            clear z0
            generalize wr = X at *
            go_loopw [6] (fun i wy => ∃ j : Nat, i = .int .i64 j ∧ j ≤ n1 ∧ Below X.heap.size X wy) (fun i _ => n1 - (intOf i).toNat)
            case atStart => exact ⟨0, rfl, by omega, Below.refl _ _⟩
            case round =>
              obtain ⟨j, rfl, hj, bel2⟩ := hrel
              have z2 := pw_cell_below bel2 z1
              by_cases hltj : j < n1
              · obtain ⟨g', o', rfl, ⟨A2, n2, c2, y0, hr2, _⟩, q3⟩ := (rdR_below hr bel2).at_ hltj
                rw [Nat.mul_one] at q3 y0
                have q4 : (0 : Int) ≤ (j : Int) := by omega
                have q5 : (j : Int) < (n1 : Int) := by omega
                clear z1
                go_wp2_with fail
                (with_reducible refine (great25 A2 n2 c2 _ _ hr2).mono ?_)
                rintro e Y ⟨G, rfl, _, hB⟩
                have P3 := bel2.trans (hB.mono bel2.size)
                clear z2 y0
                cases G with
                | true =>
                  go_wp2
                  go_ret
                  exact ⟨true, rfl, by simp, PX.trans (P3.mono PX.size)⟩
                | false =>
                  go_wp2
                  go_roundw
                  case rel => exact ⟨j + 1, by go_num, by omega, P3⟩
                  case measure => simp [intOf] <;> omega
              · obtain rfl : j = n1 := by omega
                clear z1
                go_wp2
                go_roundw
                case rel => exact ⟨k + 1, by go_num, by omega, bel.trans (bel2.mono bel.size)⟩
                case measure => simp [intOf] <;> omega
        · obtain rfl : k = m := by omega
          go_wp2
          go_ret
          exact ⟨false, rfl, fun _ => ⟨hn.out, by omega⟩, P1.trans (bel.mono P1.size)⟩
end Go.Proofs.Ytegkclehijdbiaa.VD
