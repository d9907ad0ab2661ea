import Derived.Test.YtegkclehijdbiaaV2
set_option linter.unusedSimpArgs false
set_option linter.unusedVariables false
namespace Go.Proofs.Ytegkclehijdbiaa.V3
open Go.RowKit Go.Proofs.YtegkclehijdbiaaW.PrintWords Go.Proofs.YtegkclehijdbiaaW.PrintLast Go.Proofs.Ytegkclehijdbiaa.V1 Go.Proofs.Ytegkclehijdbiaa.V2

/-- A column. -/
structure Cl where
  s : ByteArray
  k : Int
instance : Inhabited Cl := ⟨⟨ByteArray.empty, 0⟩⟩
structure Cl.Fit (c : Cl) : Prop where
  k0 : -9223372036854775808 ≤ c.k
  k1 : c.k ≤ 9223372036854775807
  s1 : c.s.size ≤ 9223372036854775807
def atC (w : World) (g o : Nat) (v : Cl) : Prop := w.cell? ⟨g, o, none⟩ = some (.string v.s) ∧ w.cell? ⟨g, o + 1, none⟩ = some (.int .i64 v.k) ∧ v.Fit
theorem atC.below {w w' : World} {g o : Nat} {v : Cl} (h : atC w g o v) (hb : Below w.heap.size w w') : atC w' g o v := ⟨pw_cell_below hb h.1, pw_cell_below hb h.2.1, h.2.2⟩
abbrev RdC := Rd 2 atC
theorem rdC_below {w w' : World} {A : Option Addr} {n : Nat} {l : List Cl} (h : RdC w A n l) (hb : Below w.heap.size w w') : RdC w' A n l := Rd.below (P := atC) (fun h hb => atC.below h hb) h hb
/-- A row among rows. -/
def atR (w : World) (g o : Nat) (l : List Vl) : Prop := ∃ A n c, w.cell? ⟨g, o, none⟩ = some (.slice A n c) ∧ RdV w A n l ∧ n ≤ c ∧ c ≤ 9223372036854775807
theorem atR.below {w w' : World} {g o : Nat} {l : List Vl} (h : atR w g o l) (hb : Below w.heap.size w w') : atR w' g o l := by
  obtain ⟨A, n, c, h1, h2, h3, h4⟩ := h
  exact ⟨A, n, c, pw_cell_below hb h1, rdV_below h2 hb, h3, h4⟩
abbrev RdR := Rd 1 atR
theorem rdR_below {w w' : World} {A : Option Addr} {n : Nat} {l : List (List Vl)} (h : RdR w A n l) (hb : Below w.heap.size w w') : RdR w' A n l := Rd.below (P := atR) (fun h hb => atR.below h hb) h hb

/-- The kinds are the columns'. -/
def kindB (cs : List Cl) (l : List Vl) : Nat → Bool
  | 0 => true
  | k + 1 => kindB cs l k && ((el l k).k == (el cs k).k)
theorem kindB_no {cs : List Cl} {l : List Vl} {k : Nat} (h : ((el l k).k == (el cs k).k) = false) : ∀ {n : Nat}, k < n → kindB cs l n = false
  | n + 1, hk => by
    by_cases e : k = n
    · subst e; simp only [kindB, h, Bool.and_false]
    · simp only [kindB, kindB_no h (n := n) (by omega), Bool.false_and]
def fitRow (cs : List Cl) (l : List Vl) : Bool := (l.length == cs.length) && allV l l.length && kindB cs l l.length
def fitAll (cs : List Cl) (ls : List (List Vl)) : Nat → Bool
  | 0 => true
  | k + 1 => fitAll cs ls k && fitRow cs (el ls k)
theorem fitAll_no {cs : List Cl} {ls : List (List Vl)} {k : Nat} (h : fitRow cs (el ls k) = false) : ∀ {n : Nat}, k < n → fitAll cs ls n = false
  | n + 1, hk => by
    by_cases e : k = n
    · subst e; simp only [fitAll, h, Bool.and_false]
    · simp only [fitAll, fitAll_no h (n := n) (by omega), Bool.false_and]
def fitsB (cs : List Cl) (ls : List (List Vl)) : Bool := fitAll cs ls ls.length && decide ((ls.length : Int) ≤ 32)

set_option maxHeartbeats 2000000 in
/-- The reference's Fits, of columns alone. -/
theorem fits66 (nm : ByteArray) (A B : Option Addr) (n c m d : Nat) (cs : List Cl) (l : List Vl) (w : World) (hc : RdC w A n cs) (hr : RdV w B m l) :
    Calls Try.prog 66 #[.agg #[.string nm, .slice A n c, .slice none 0 0, .int .i64 0, .int .i64 0, .int .i64 0], .slice B m d] w fun e w' => e = .returned (.bool (fitRow cs l)) ∧ Below w.heap.size w w' := by
  have hn := hc.2.1
  have hm := hr.2.1
  have hlc := hc.1
  have hlr := hr.1
  have hv := Lib.hid (show fitRow cs l = ((l.length == cs.length) && allV l l.length && kindB cs l l.length) from rfl)
  rw [hlc, hlr] at hv
  have hlc := Lib.hid hlc
  have hlr := Lib.hid hlr
  go_enter Try.func66, Try.ntmps66
  have f1 : (w.alloc (.cells #[.string nm, .slice A n c, .slice none 0 0, .int .i64 0, .int .i64 0, .int .i64 0] 107)).cell? ⟨w.heap.size, 1, none⟩ = some (.slice A n c) := by go_simp
  have P0 : Below w.heap.size w (w.alloc (.cells #[.string nm, .slice A n c, .slice none 0 0, .int .i64 0, .int .i64 0, .int .i64 0] 107)) := by go_grown
  have hc0 := rdC_below hc P0
  have hr0 := rdV_below hr P0
  by_cases hmn : m = n
  · subst hmn
    go_wp2_with fail
    generalize w.alloc (.cells #[.string nm, .slice A m c, .slice none 0 0, .int .i64 0, .int .i64 0, .int .i64 0] 107) = W0 at *
    (with_reducible refine (all46 B m d l _ hr0).mono ?_)
    rintro e W1 ⟨rfl, hB1⟩
    have f1 := pw_cell_below hB1 f1
    have hc1 := rdC_below hc0 hB1
    have hr1 := rdV_below hr0 hB1
    have P1 := P0.trans (hB1.mono P0.size)
    clear hB1 hc hr hc0 hr0 P0
    cases ha : allV l m with
    | false =>
      have hF : Hid (fitRow cs l = false) := by show _ = _; rw [hv.out, ha]; simp
      go_wp2
      go_ret
      exact ⟨by rw [hF.out]; rfl, P1⟩
    | true =>
      have ha := Lib.hid ha
      go_wp2
      go_loopw [5] (fun i wr => ∃ k : Nat, i = .int .i64 k ∧ k ≤ m ∧ Hid (kindB cs l k = true) ∧ ∃ q, wr = W1.drewN q) (fun i _ => m - (intOf i).toNat)
      case atStart => exact ⟨0, rfl, by omega, rfl, 0, rfl⟩
      case round =>
        obtain ⟨k, rfl, hk, hok, q, rfl⟩ := hrel
        by_cases hlt : k < m
        · obtain ⟨g, o, rfl, ⟨c0, c1, c2, hf⟩, q2⟩ := hr1.at_ hlt
          obtain ⟨g', o', rfl, ⟨d0, d1, hf'⟩, q2'⟩ := hc1.at_ hlt
          have q0 : (0 : Int) ≤ (k : Int) := by omega
          have q1 : (k : Int) < (m : Int) := by omega
          go_wp2
          go_quiet (fail)
          cases he : ((el l k).k == (el cs k).k) with
          | true =>
            have hok2 : Hid (kindB cs l (k + 1) = true) := by show _ = _; simp only [kindB, hok.out, he, Bool.and_self]
            have he2 : (el l k).k = (el cs k).k := by simpa using he
            go_wp2
            go_roundw
            case rel => exact ⟨k + 1, by go_num, by omega, hok2, _, rfl⟩
            case measure => simp [intOf] <;> omega
          | false =>
            have hF : Hid (fitRow cs l = false) := by show _ = _; rw [hv.out, kindB_no he hlt]; simp
            have he2 : (el l k).k ≠ (el cs k).k := by simpa using he
            go_wp2
            go_ret
            exact ⟨by rw [hF.out]; rfl, pw_below_drewN (pw_below_drewN P1 _) _⟩
        · obtain rfl : k = m := by omega
          have hF : Hid (fitRow cs l = true) := by show _ = _; rw [hv.out, ha.out, hok.out]; simp
          go_wp2
          go_ret
          exact ⟨by rw [hF.out]; rfl, pw_below_drewN P1 _⟩
  · have hF : Hid (fitRow cs l = false) := by show _ = _; rw [hv.out, show (m == n) = false by simpa using hmn]; simp
    go_wp2
    go_ret
    exact ⟨by rw [hF.out]; rfl, P0⟩

set_option maxHeartbeats 1000000 in
/-- The law's fits. -/
theorem fits18 (A B : Option Addr) (n c m d : Nat) (cs : List Cl) (ls : List (List Vl)) (w : World) (hc : RdC w A n cs) (hr : RdR w B m ls) :
    Calls Try.prog 18 #[.slice A n c, .slice B m d] w fun e w' => e = .returned (.bool (fitsB cs ls)) ∧ Below w.heap.size w w' := by
  have hm := hr.2.1
  have hlr := hr.1
  have hv := Lib.hid (show fitsB cs ls = (fitAll cs ls ls.length && decide ((ls.length : Int) ≤ 32)) from rfl)
  rw [hlr] at hv
  have hlr := Lib.hid hlr
  go_enter Try.func18, Try.ntmps18
  go_wp2
  go_loopw [5] (fun i wr => ∃ k : Nat, i = .int .i64 k ∧ k ≤ m ∧ Hid (fitAll cs ls k = true) ∧ Below w.heap.size w wr) (fun i _ => m - (intOf i).toNat)
  case atStart => exact ⟨0, rfl, by omega, rfl, Below.refl _ _⟩
  case round =>
    obtain ⟨k, rfl, hk, hok, bel⟩ := hrel
    by_cases hlt : k < m
    · obtain ⟨g, o, rfl, ⟨A1, n1, c1, z0, hr1, z1, z2⟩, q2⟩ := (rdR_below hr bel).at_ hlt
      rw [Nat.mul_one] at q2 z0
      have q0 : (0 : Int) ≤ (k : Int) := by omega
      have q1 : (k : Int) < (m : Int) := by omega
      go_wp2_with fail
      (with_reducible refine (fits66 _ A A1 n c n1 c1 cs (el ls k) _ (rdC_below hc bel) hr1).mono ?_)
      rintro e W1 ⟨rfl, hB1⟩
      have P := bel.trans (hB1.mono bel.size)
      cases ho : fitRow cs (el ls k) with
      | true =>
        have hok2 : Hid (fitAll cs ls (k + 1) = true) := by show _ = _; simp only [fitAll, hok.out, ho, Bool.and_self]
        clear z0
        go_wp2
        go_roundw
        case rel => exact ⟨k + 1, by go_num, by omega, hok2, P⟩
        case measure => simp [intOf] <;> omega
      | false =>
        have hF : Hid (fitsB cs ls = false) := by show _ = _; rw [hv.out, fitAll_no ho hlt]; simp
        clear z0
        go_wp2
        go_ret
        exact ⟨by rw [hF.out]; rfl, P⟩
    · obtain rfl : k = m := by omega
      have hF : Hid (fitsB cs ls = decide ((k : Int) ≤ 32)) := by show _ = _; rw [hv.out, hok.out]; simp
      go_wp2
      go_ret
      exact ⟨by rw [hF.out]; rfl, bel⟩

set_option maxHeartbeats 2000000 in
/-- The program's fits. -/
theorem fits67 (nm : ByteArray) (A B : Option Addr) (n c m d : Nat) (cs : List Cl) (ls : List (List Vl)) (w : World) (hc : RdC w A n cs) (hr : RdR w B m ls) :
    Calls Try.prog 67 #[.agg #[.string nm, .slice A n c], .slice B m d] w fun e w' => e = .returned (.bool (fitsB cs ls)) ∧ Below w.heap.size w w' := by
  have hm := hr.2.1
  have hn := hc.2.1
  have hlr := hr.1
  have hlc := Lib.hid hc.1
  have hv := Lib.hid (show fitsB cs ls = (fitAll cs ls ls.length && decide ((ls.length : Int) ≤ 32)) from rfl)
  rw [hlr] at hv
  have hlr := Lib.hid hlr
  go_enter Try.func67, Try.ntmps67
  have f1 : (w.alloc (.cells #[.string nm, .slice A n c] 111)).cell? ⟨w.heap.size, 1, none⟩ = some (.slice A n c) := by go_simp
  have P0 : Below w.heap.size w (w.alloc (.cells #[.string nm, .slice A n c] 111)) := by go_grown
  have hc := rdC_below hc P0
  have hr := rdR_below hr P0
  go_wp2
  generalize w.alloc (.cells #[.string nm, .slice A n c] 111) = W0 at *
  go_loopw [11] (fun i wr => ∃ k : Nat, i = .int .i64 k ∧ k ≤ m ∧ Hid (fitAll cs ls k = true) ∧ Below W0.heap.size W0 wr) (fun i _ => m - (intOf i).toNat)
  case atStart => exact ⟨0, rfl, by omega, rfl, Below.refl _ _⟩
  case round =>
    obtain ⟨k, rfl, hk, hok, bel⟩ := hrel
    have g1 := pw_cell_below bel f1
    by_cases hlt : k < m
    · obtain ⟨g, o, rfl, ⟨A1, n1, c1, z0, hr1, z1, z2⟩, q2⟩ := (rdR_below hr bel).at_ hlt
      rw [Nat.mul_one] at q2 z0
      have q0 : (0 : Int) ≤ (k : Int) := by omega
      have q1 : (k : Int) < (m : Int) := by omega
      have hn1 := hr1.2.1
      have hvr := Lib.hid (show fitRow cs (el ls k) = (((el ls k).length == cs.length) && allV (el ls k) (el ls k).length && kindB cs (el ls k) (el ls k).length) from rfl)
      rw [hlc.out, hr1.1] at hvr
      by_cases hmn : n1 = n
      · subst hmn
        go_wp2_with fail
        (with_reducible refine (right97 A1 n1 c1 (el ls k) _ hr1).mono ?_)
        rintro e W1 ⟨rfl, hB1⟩
        have P1 := bel.trans (hB1.mono bel.size)
        have g2 := pw_cell_below P1 f1
        clear g1 z0
        cases ha : allV (el ls k) n1 with
        | false =>
          have hF : Hid (fitsB cs ls = false) := by show _ = _; rw [hv.out, fitAll_no (by rw [hvr.out, ha]; simp) hlt]; simp
          go_wp2
          go_ret
          exact ⟨by rw [hF.out]; rfl, P0.trans (P1.mono P0.size)⟩
        | true =>
          have ha := Lib.hid ha
          have hcX := rdC_below hc P1
          have hrX := rdV_below hr1 hB1
          go_wp2
          clear g2
          go_loopw [29] (fun i wr => ∃ j : Nat, i = .int .i64 j ∧ j ≤ n1 ∧ Hid (kindB cs (el ls k) j = true) ∧ Below W1.heap.size W1 wr) (fun i _ => n1 - (intOf i).toNat)
          case atStart => exact ⟨0, rfl, by omega, rfl, Below.refl _ _⟩
          case round =>
            obtain ⟨j, rfl, hj, hkj, bel2⟩ := hrel
            have P2 := P1.trans (bel2.mono P1.size)
            have g3 := pw_cell_below P2 f1
            by_cases hltj : j < n1
            · obtain ⟨g', o', rfl, ⟨c0, c1', c2, hf⟩, q3⟩ := (rdV_below hrX bel2).at_ hltj
              obtain ⟨g'', o'', rfl, ⟨d0, d1, hf'⟩, q4⟩ := (rdC_below hcX bel2).at_ hltj
              have q5 : (0 : Int) ≤ (j : Int) := by omega
              have q6 : (j : Int) < (n1 : Int) := by omega
              go_upto_region 9 with fail
              have P3 : Below wr.heap.size wr (wr.alloc (.cells #[.int .i64 (el (el ls k) j).k, .int .i64 (el (el ls k) j).n, .string (el (el ls k) j).s] 56)) := by go_grown
              have e0 : (wr.alloc (.cells #[.int .i64 (el (el ls k) j).k, .int .i64 (el (el ls k) j).n, .string (el (el ls k) j).s] 56)).cell? ⟨wr.heap.size, 0, none⟩ = some (.int .i64 (el (el ls k) j).k) := by go_simp
              have g4 := pw_cell_below P3 g3
              have d4 := pw_cell_below P3 d1
              have P4 := bel2.trans (P3.mono bel2.size)
              clear g3 d1 d0 c0 c1' c2
              generalize wr.alloc (.cells #[.int .i64 (el (el ls k) j).k, .int .i64 (el (el ls k) j).n, .string (el (el ls k) j).s] 56) = X at *
              go_quiet (fail)
              cases he : ((el (el ls k) j).k == (el cs j).k) with
              | true =>
                have hok2 : Hid (kindB cs (el ls k) (j + 1) = true) := by show _ = _; simp only [kindB, hkj.out, he, Bool.and_self]
                have he2 : (el (el ls k) j).k = (el cs j).k := by simpa using he
                go_wp2
                go_roundw
                case rel => exact ⟨j + 1, by go_num, by omega, hok2, pw_below_drewN P4 _⟩
                case measure => simp [intOf] <;> omega
              | false =>
                have hF : Hid (fitsB cs ls = false) := by show _ = _; rw [hv.out, fitAll_no (by rw [hvr.out, kindB_no he hltj]; simp) hlt]; simp
                have he2 : (el (el ls k) j).k ≠ (el cs j).k := by simpa using he
                go_wp2
                go_ret
                exact ⟨by rw [hF.out]; rfl, P0.trans ((pw_below_drewN (P1.trans (P4.mono P1.size)) _).mono P0.size)⟩
            · obtain rfl : j = n1 := by omega
              have hok2 : Hid (fitAll cs ls (k + 1) = true) := by show _ = _; simp only [fitAll, hok.out, hvr.out, ha.out, hkj.out]; simp
              go_wp2
              go_roundw
              case rel => exact ⟨k + 1, by go_num, by omega, hok2, P2⟩
              case measure => simp [intOf] <;> omega
      · have hF : Hid (fitsB cs ls = false) := by show _ = _; rw [hv.out, fitAll_no (by rw [hvr.out, show (n1 == n) = false by simpa using hmn]; simp) hlt]; simp
        go_wp2
        go_ret
        exact ⟨by rw [hF.out]; rfl, P0.trans (bel.mono P0.size)⟩
    · obtain rfl : k = m := by omega
      have hF : Hid (fitsB cs ls = decide ((k : Int) ≤ 32)) := by show _ = _; rw [hv.out, hok.out]; simp
      go_wp2
      go_ret
      exact ⟨by rw [hF.out]; rfl, P0.trans (bel.mono P0.size)⟩

set_option maxHeartbeats 1000000 in
/-- stream.Fits. -/
theorem fits22 (A B : Option Addr) (n c m d : Nat) (cs : List Cl) (ls : List (List Vl)) (w : World) (hc : RdC w A n cs) (hr : RdR w B m ls) :
    Calls Try.prog 22 #[.slice A n c, .slice B m d] w fun e w' => e = .returned (.bool (fitsB cs ls)) ∧ Below w.heap.size w w' := by
  go_enter Try.func22, Try.ntmps22
  go_wp2_with fail
  (with_reducible refine (fits67 _ A B n c m d cs ls _ hc hr).mono ?_)
  rintro e W1 ⟨rfl, hB1⟩
  go_wp2
  go_ret
  exact ⟨rfl, hB1⟩
end Go.Proofs.Ytegkclehijdbiaa.V3
