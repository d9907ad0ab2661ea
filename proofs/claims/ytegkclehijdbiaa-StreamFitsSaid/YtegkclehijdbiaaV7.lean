import Derived.Test.YtegkclehijdbiaaV6
set_option linter.unusedSimpArgs false
set_option linter.unusedVariables false
namespace Go.Proofs.Ytegkclehijdbiaa.V7
open Go.RowKit Go.Proofs.YtegkclehijdbiaaW.PrintWords Go.Proofs.YtegkclehijdbiaaW.PrintLast Go.Proofs.Ytegkclehijdbiaa.V1 Go.Proofs.Ytegkclehijdbiaa.V2 Go.Proofs.Ytegkclehijdbiaa.V3 Go.Proofs.Ytegkclehijdbiaa.V4 Go.Proofs.Ytegkclehijdbiaa.V5 Go.Proofs.Ytegkclehijdbiaa.V6

/-- The schema's cells. -/
structure Sc (w : World) (g : Nat) (nm : ByteArray) (A : Option Addr) (n c gi : Nat) : Prop where
  f0 : w.cell? ⟨g, 0, none⟩ = some (.string nm)
  f1 : w.cell? ⟨g, 1, none⟩ = some (.slice A n c)
  f2 : w.cell? ⟨g, 2, none⟩ = some (.slice (some ⟨gi, 0, none⟩) 1 1)
  f3 : w.cell? ⟨g, 3, none⟩ = some (.int .i64 1)
  f4 : w.cell? ⟨g, 4, none⟩ = some (.int .i64 1)
  f5 : w.cell? ⟨g, 5, none⟩ = some (.int .i64 0)
theorem Sc.below {w w' : World} {g : Nat} {nm : ByteArray} {A : Option Addr} {n c gi : Nat} (h : Sc w g nm A n c gi) (hb : Below w.heap.size w w') : Sc w' g nm A n c gi :=
  ⟨pw_cell_below hb h.f0, pw_cell_below hb h.f1, pw_cell_below hb h.f2, pw_cell_below hb h.f3, pw_cell_below hb h.f4, pw_cell_below hb h.f5⟩

set_option maxRecDepth 8000 in
set_option maxHeartbeats 4000000 in
/-- The reference's Right, of a stream's schema. -/
theorem right65 (nm : ByteArray) (A : Option Addr) (n c gi gj : Nat) (cs : List Cl) (w : World) (hnm : nm.size ≤ 9223372036854775807) (hc : RdC w A n cs) (hI : Ix w gi gj) :
    Calls Try.prog 65 #[.agg #[.string nm, .slice A n c, .slice (some ⟨gi, 0, none⟩) 1 1, .int .i64 1, .int .i64 1, .int .i64 0]] w fun e w' => e = .returned (.bool (rightB nm cs)) ∧ Below w.heap.size w w' := by
  have hn := hc.2.1
  have hlc := hc.1
  have hv := Lib.hid (show rightB nm cs = (namB nm && (allC cs cs.length && witB cs.length 1 8 && distB cs cs.length)) from rfl)
  rw [hlc] at hv
  clear hlc
  have S0 : Sc (w.alloc (.cells #[.string nm, .slice A n c, .slice (some ⟨gi, 0, none⟩) 1 1, .int .i64 1, .int .i64 1, .int .i64 0] 107)) w.heap.size nm A n c gi := ⟨by go_simp, by go_simp, by go_simp, by go_simp, by go_simp, by go_simp⟩
  have P0 : Below w.heap.size w (w.alloc (.cells #[.string nm, .slice A n c, .slice (some ⟨gi, 0, none⟩) 1 1, .int .i64 1, .int .i64 1, .int .i64 0] 107)) := by go_grown
  have hc := rdC_below hc P0
  have hI := hI.below P0
  go_enter Try.func65, Try.ntmps65
  go_wp2_with fail
  generalize w.alloc (.cells #[.string nm, .slice A n c, .slice (some ⟨gi, 0, none⟩) 1 1, .int .i64 1, .int .i64 1, .int .i64 0] 107) = W0 at *
  (with_reducible refine (named95 nm _ hnm).mono ?_)
  rintro e W1 ⟨rfl, hB1⟩
  obtain ⟨f0, f1, f2, f3, f4, f5⟩ := S0.below hB1
  obtain ⟨i0, i1, i2⟩ := hI.below hB1
  have S1 := S0.below hB1
  have I1 := hI.below hB1
  have c1 := rdC_below hc hB1
  have P1 := P0.trans (hB1.mono P0.size)
  clear P0 hB1 S0 hI hc
  cases hnb : namB nm with
  | false =>
    have hF : Hid (rightB nm cs = false) := by show _ = _; rw [hv.out, hnb]; rfl
    go_wp2
    go_ret
    exact ⟨by rw [hF.out]; rfl, P1⟩
  | true =>
    by_cases hw : 1 ≤ n ∧ n ≤ 8
    · obtain ⟨w1, w2⟩ := hw
      have hv2 : Hid (rightB nm cs = (allC cs n && distB cs n)) := by show _ = _; rw [hv.out, hnb, show witB n 1 8 = true by simp [witB]; omega]; simp
      have q0 : (1 : Int) ≤ (n : Int) := by omega
      have q1 : (n : Int) ≤ 8 := by omega
      have b1 : decide ((n : Int) < 1) = false := decide_eq_false (by omega)
      have b2 : decide (8 < (n : Int)) = false := decide_eq_false (by omega)
      go_wp2
      clear f0 f1 f2 f3 f4 f5 i0 i1 i2 b1 b2 hv
      go_loopw [4] (fun i wr => ∃ k : Nat, i = .int .i64 k ∧ k ≤ n ∧ Hid (allC cs k = true) ∧ Hid (distB cs k = true) ∧ Below W1.heap.size W1 wr) (fun i _ => n - (intOf i).toNat)
      case atStart => exact ⟨0, rfl, by omega, rfl, rfl, Below.refl _ _⟩
      case round =>
        obtain ⟨k, rfl, hk, hok, hds, bel⟩ := hrel
        have f1 := (S1.below bel).f1
        by_cases hlt : k < n
        · obtain ⟨g, o, rfl, ⟨d0, d1, hf⟩, q2⟩ := (rdC_below c1 bel).at_ hlt
          have hf := Lib.hid hf
          have q3 : (0 : Int) ≤ (k : Int) := by omega
          have q4 : (k : Int) < (n : Int) := by omega
          have hcb := Lib.hid (show colB (el cs k) = (namB (el cs k).s && witB (el cs k).k 1 3) from rfl)
          go_wp2_with fail
          (with_reducible refine (named95 (el cs k).s _ hf.out.s1).mono ?_)
          rintro e Y ⟨rfl, hB⟩
          have P2 := bel.trans (hB.mono bel.size)
          have f1 := (S1.below P2).f1
          have d1 := pw_cell_below hB d1
          clear d0
          cases hnm : namB (el cs k).s with
          | false =>
            have hF : Hid (rightB nm cs = false) := by show _ = _; rw [hv2.out, allC_no (by rw [hcb.out, hnm]; rfl) hlt]; rfl
            go_wp2
            go_ret
            exact ⟨by rw [hF.out]; rfl, P1.trans (P2.mono P1.size)⟩
          | true =>
            by_cases hkk : 1 ≤ (el cs k).k ∧ (el cs k).k ≤ 3
            · obtain ⟨k1, k2⟩ := hkk
              have hok2 : Hid (allC cs (k + 1) = true) := by show _ = _; simp only [allC, hok.out, hcb.out, hnm, show witB (el cs k).k 1 3 = true by simp [witB]; omega]; rfl
              have b1 : decide ((el cs k).k < 1) = false := decide_eq_false (by omega)
              have b2 : decide (3 < (el cs k).k) = false := decide_eq_false (by omega)
              go_wp2
              clear d1 b1 b2
              go_loopw [5] (fun i wy => ∃ j : Nat, i = .int .i64 j ∧ j ≤ k ∧ Hid (noneB cs k j = true) ∧ ∃ q, wy = Y.drewN q) (fun i _ => k - (intOf i).toNat)
              case atStart => exact ⟨0, rfl, by omega, rfl, 0, rfl⟩
              case round =>
                obtain ⟨j, rfl, hj, hnj, q, rfl⟩ := hrel
                by_cases hltj : j < k
                · obtain ⟨g', o', hgo, ⟨e0, e1, _⟩, q5⟩ := (rdC_below c1 P2).at_ (show j < n by omega)
                  cases hgo
                  obtain ⟨g'', o'', hgo, ⟨e2, e3, _⟩, q6⟩ := (rdC_below c1 P2).at_ hlt
                  cases hgo
                  have q7 : (0 : Int) ≤ (j : Int) := by omega
                  have q8 : (j : Int) < (k : Int) := by omega
                  go_wp2
                  go_quiet (fail)
                  have hcm := Lib.hid (show ((el cs j).s.toList == (el cs k).s.toList) = eqS (el cs k).s (el cs j).s from eqS_comm _ _)
                  rw [hcm.out]
                  cases he : eqS (el cs k).s (el cs j).s with
                  | false =>
                    have hok3 : Hid (noneB cs k (j + 1) = true) := by show _ = _; simp only [noneB, hnj.out, he]; rfl
                    go_wp2
                    go_roundw
                    case rel => exact ⟨j + 1, by go_num, by omega, hok3, _, rfl⟩
                    case measure => simp [intOf] <;> omega
                  | true =>
                    have hF : Hid (rightB nm cs = false) := by show _ = _; rw [hv2.out, distB_no (noneB_no he hltj) hlt]; simp
                    go_wp2
                    go_ret
                    exact ⟨by rw [hF.out]; rfl, P1.trans ((pw_below_drewN (pw_below_drewN P2 _) _).mono P1.size)⟩
                · obtain rfl : j = k := by omega
                  have hok3 : Hid (distB cs (j + 1) = true) := by show _ = _; simp only [distB, hds.out, hnj.out]; rfl
                  go_wp2
                  go_roundw
                  case rel => exact ⟨j + 1, by go_num, by omega, hok2, hok3, pw_below_drewN P2 _⟩
                  case measure => simp [intOf] <;> omega
            · have hF : Hid (rightB nm cs = false) := by show _ = _; rw [hv2.out, allC_no (by rw [hcb.out, show witB (el cs k).k 1 3 = false by simp [witB]; omega]; simp) hlt]; rfl
              have k1 : (el cs k).k < 1 ∨ 3 < (el cs k).k := by omega
              rcases k1 with k1 | k1
              all_goals
                go_wp2
                go_ret
                exact ⟨by rw [hF.out]; rfl, P1.trans (P2.mono P1.size)⟩
        · obtain rfl : k = n := by omega
          have hF : Hid (rightB nm cs = true) := by show _ = _; rw [hv2.out, hok.out, hds.out]; rfl
          have f2 := (S1.below bel).f2
          obtain ⟨i0, i1, i2⟩ := I1.below bel
          go_wp2
          go_loopw [6] (fun i wy => ∃ j : Nat, i = .int .i64 j ∧ j ≤ 1 ∧ ∃ q, wy = wr.drewN q) (fun i _ => 1 - (intOf i).toNat)
          case atStart => exact ⟨0, rfl, by omega, 0, rfl⟩
          case round =>
            obtain ⟨j, rfl, hj, q, rfl⟩ := hrel
            by_cases hj0 : j = 0
            · subst hj0
              go_wp2
              go_loopw [8] (fun i wz => ∃ x : Nat, i = .int .i64 x ∧ x ≤ 1 ∧ ∃ q, wz = wr.drewN q) (fun i _ => 1 - (intOf i).toNat)
              case atStart => exact ⟨0, rfl, by omega, _, rfl⟩
              case round =>
                obtain ⟨x, rfl, hx, q, rfl⟩ := hrel
                by_cases hx0 : x = 0
                · subst hx0
                  have b3 : decide ((k : Int) ≤ 0) = false := decide_eq_false (by omega)
                  go_wp2
                  clear b3
                  go_loopw [9] (fun i wz => i = .int .i64 0 ∧ ∃ q, wz = wr.drewN q) (fun i _ => 0)
                  case atStart => exact ⟨rfl, _, rfl⟩
                  case round =>
                    obtain ⟨rfl, q, rfl⟩ := hrel
                    go_wp2
                    go_roundw
                    case rel => exact ⟨1, by go_num, by omega, _, rfl⟩
                    case measure => simp [intOf] <;> omega
                · obtain rfl : x = 1 := by omega
                  go_wp2
                  go_loopw [10] (fun i wz => i = .int .i64 0 ∧ ∃ q, wz = wr.drewN q) (fun i _ => 0)
                  case atStart => exact ⟨rfl, _, rfl⟩
                  case round =>
                    obtain ⟨rfl, q, rfl⟩ := hrel
                    go_wp2
                    go_roundw
                    case rel => exact ⟨1, by go_num, by omega, _, rfl⟩
                    case measure => simp [intOf] <;> omega
            · obtain rfl : j = 1 := by omega
              go_wp2
              go_ret
              exact ⟨by rw [hF.out]; rfl, P1.trans ((pw_below_drewN bel _).mono P1.size)⟩
    · have hF : Hid (rightB nm cs = false) := by show _ = _; rw [hv.out, show witB n 1 8 = false by simp [witB]; omega]; simp
      have w1 : n < 1 ∨ 8 < n := by omega
      rcases w1 with w1 | w1
      all_goals
        go_wp2
        go_ret
        exact ⟨by rw [hF.out]; rfl, P1⟩

set_option maxHeartbeats 1000000 in
/-- The law's right. -/
theorem right15 (nm : ByteArray) (A : Option Addr) (n c : Nat) (cs : List Cl) (w : World) (hnm : nm.size ≤ 9223372036854775807) (hc : RdC w A n cs) :
    Calls Try.prog 15 #[.agg #[.string nm, .slice A n c]] w fun e w' => e = .returned (.bool (rightB nm cs)) ∧ Below w.heap.size w w' := by
  go_enter Try.func15, Try.ntmps15
  go_wp2_with fail
  have I0 : Ix (((w.alloc (.cells #[.string nm, .slice A n c] 24)).alloc (.cells #[.int .i64 0] 3)).alloc (.cells #[.slice (some ⟨w.heap.size + 1, 0, none⟩) 1 1, .bool true] 117)) (w.heap.size + 1 + 1) (w.heap.size + 1) := ⟨by go_simp, by go_simp, by go_simp⟩
  have P0 : Below w.heap.size w (((w.alloc (.cells #[.string nm, .slice A n c] 24)).alloc (.cells #[.int .i64 0] 3)).alloc (.cells #[.slice (some ⟨w.heap.size + 1, 0, none⟩) 1 1, .bool true] 117)) := by go_grown
  generalize ((w.alloc (.cells #[.string nm, .slice A n c] 24)).alloc (.cells #[.int .i64 0] 3)).alloc (.cells #[.slice (some ⟨w.heap.size + 1, 0, none⟩) 1 1, .bool true] 117) = W0 at *
  (with_reducible refine (right65 nm A n c _ _ cs _ hnm (rdC_below hc P0) I0).mono ?_)
  rintro e W1 ⟨rfl, hB1⟩
  go_wp2
  go_ret
  exact ⟨rfl, P0.trans (hB1.mono P0.size)⟩
end Go.Proofs.Ytegkclehijdbiaa.V7
