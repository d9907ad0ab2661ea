import Derived.Test.YtegkclehijdbiaaWWords
import Derived.Test.YtegkclehijdbiaaWLast
import Derived.Test.YtegkclehijdbiaaProg
import Derived.Handy
import Derived.Lib.Hide
import Derived.Lib.SliceRun
set_option linter.unusedSimpArgs false
set_option linter.unusedVariables false
namespace Go.Proofs.Ytegkclehijdbiaa.V1
open Go.RowKit Go.Proofs.YtegkclehijdbiaaW.PrintWords Go.Proofs.YtegkclehijdbiaaW.PrintLast

/-- A value: its kind, its number, its text. -/
structure Vl where
  k : Int
  n : Int
  s : ByteArray
instance : Inhabited Vl := ⟨⟨0, 0, ByteArray.empty⟩⟩
abbrev Vl.agg (v : Vl) : Value := .agg #[.int .i64 v.k, .int .i64 v.n, .string v.s]
/-- It fits the machine. -/
structure Vl.Fit (v : Vl) : Prop where
  k0 : -9223372036854775808 ≤ v.k
  k1 : v.k ≤ 9223372036854775807
  n0 : -9223372036854775808 ≤ v.n
  n1 : v.n ≤ 9223372036854775807
  s1 : v.s.size ≤ 9223372036854775807
/-- A right value. -/
def okV (v : Vl) : Bool := (v.k == 1 && v.s.toList.isEmpty) || (v.k == 2 && v.n == 0 && decide ((v.s.size : Int) ≤ 200)) || (v.k == 3 && (v.n == 0 || v.n == 1) && v.s.toList.isEmpty)

/-- An element. -/
def el {α : Type} [Inhabited α] (l : List α) (k : Nat) : α := l.getD k default
theorem add_at (g o j : Nat) : (⟨g, o, none⟩ : Addr).add j = ⟨g, o + j, none⟩ := by unfold Addr.add; split <;> simp_all
/-- What lies in memory, one element behind the other, sz cells each. -/
def Rd {α : Type} [Inhabited α] (sz : Nat) (P : World → Nat → Nat → α → Prop) (w : World) (A : Option Addr) (n : Nat) (l : List α) : Prop :=
  l.length = n ∧ n ≤ 9223372036854775807 ∧ (0 < n → ∃ g o, A = some ⟨g, o, none⟩ ∧ ∀ i < n, P w g (o + i * sz) (el l i))
def atV (w : World) (g o : Nat) (v : Vl) : Prop := w.cell? ⟨g, o, none⟩ = some (.int .i64 v.k) ∧ w.cell? ⟨g, o + 1, none⟩ = some (.int .i64 v.n) ∧ w.cell? ⟨g, o + 2, none⟩ = some (.string v.s) ∧ v.Fit
theorem Rd.below {α : Type} [Inhabited α] {sz : Nat} {P : World → Nat → Nat → α → Prop} (hP : ∀ {w w' : World} {g o : Nat} {a : α}, P w g o a → Below w.heap.size w w' → P w' g o a) {w w' : World} {A : Option Addr} {n : Nat} {l : List α} (h : Rd sz P w A n l) (hb : Below w.heap.size w w') : Rd sz P w' A n l := by
  refine ⟨h.1, h.2.1, fun hn => ?_⟩
  obtain ⟨g, o, e, hc⟩ := h.2.2 hn
  exact ⟨g, o, e, fun i hi => hP (hc i hi) hb⟩
theorem Rd.at_ {α : Type} [Inhabited α] {sz : Nat} {P : World → Nat → Nat → α → Prop} {w : World} {A : Option Addr} {n : Nat} {l : List α} (h : Rd sz P w A n l) {k : Nat} (hk : k < n) : ∃ g o, A = some ⟨g, o, none⟩ ∧ P w g (o + k * sz) (el l k) ∧ (⟨g, o, none⟩ : Addr).add (k * sz) = ⟨g, o + k * sz, none⟩ := by
  obtain ⟨g, o, e, hc⟩ := h.2.2 (by omega)
  exact ⟨g, o, e, hc k hk, add_at g o _⟩
theorem atV.below {w w' : World} {g o : Nat} {v : Vl} (h : atV w g o v) (hb : Below w.heap.size w w') : atV w' g o v := ⟨pw_cell_below hb h.1, pw_cell_below hb h.2.1, pw_cell_below hb h.2.2.1, h.2.2.2⟩
abbrev RdV := Rd 3 atV
theorem rdV_below {w w' : World} {A : Option Addr} {n : Nat} {l : List Vl} (h : RdV w A n l) (hb : Below w.heap.size w w') : RdV w' A n l := Rd.below (P := atV) (fun h hb => atV.below h hb) h hb

theorem empty_no {s : ByteArray} (h : 0 < s.size) : s.toList.isEmpty = false := by
  rw [ByteArray.toList_eq, List.isEmpty_eq_false_iff]
  intro e
  have := data_length s
  rw [e] at this; simp at this; omega
theorem empty_yes {s : ByteArray} (h : s.size = 0) : s.toList.isEmpty = true := by
  rw [ByteArray.toList_eq, List.isEmpty_iff]
  exact List.eq_nil_of_length_eq_zero ((data_length s).trans h)

set_option maxHeartbeats 2000000 in
/-- The reference's Right. -/
theorem right75 (v : Vl) (w : World) (hf : v.Fit) : Calls Try.prog 75 #[v.agg] w fun e w' => e = .returned (.bool (okV v)) ∧ Below w.heap.size w w' := by
  obtain ⟨k, n, s⟩ := v
  obtain ⟨k0, k1, n0, n1, s1⟩ := hf
  dsimp only at k0 k1 n0 n1 s1
  have hv := Lib.hid (show okV ⟨k, n, s⟩ = ((k == 1 && s.toList.isEmpty) || (k == 2 && n == 0 && decide ((s.size : Int) ≤ 200)) || (k == 3 && (n == 0 || n == 1) && s.toList.isEmpty)) from rfl)
  unfold Vl.agg
  dsimp only
  generalize okV ⟨k, n, s⟩ = b at *
  go_enter Try.func75, Try.ntmps75
  go_wp2
  all_goals
    go_ret
    refine ⟨?_, by go_grown⟩
    rw [hv.out]
    first
      | (simp_all; done)
      | (simp_all; rw [Bool.eq_iff_iff]; simp <;> omega)

set_option maxHeartbeats 2000000 in
/-- What value.wrong tells. -/
theorem wrong106 (v : Vl) (w : World) (hf : v.Fit) : Calls Try.prog 106 #[v.agg] w fun e w' => e = .returned (.bool (!okV v)) ∧ Below w.heap.size w w' := by
  obtain ⟨k, n, s⟩ := v
  obtain ⟨k0, k1, n0, n1, s1⟩ := hf
  dsimp only at k0 k1 n0 n1 s1
  have hv := Lib.hid (show okV ⟨k, n, s⟩ = ((k == 1 && s.toList.isEmpty) || (k == 2 && n == 0 && decide ((s.size : Int) ≤ 200)) || (k == 3 && (n == 0 || n == 1) && s.toList.isEmpty)) from rfl)
  unfold Vl.agg
  dsimp only
  generalize okV ⟨k, n, s⟩ = b at *
  have e2 : (n / 2 != 0) = !(n == 0 || n == 1) := by
    rw [Bool.eq_iff_iff]; simp; omega
  have q0 : -9223372036854775808 ≤ n / 2 := by omega
  have q1 : n / 2 ≤ 9223372036854775807 := by omega
  go_enter Try.func106, Try.ntmps106
  go_wp2
  all_goals
    go_ret
    refine ⟨?_, by go_grown⟩
    rw [hv.out]
    first
      | (simp_all; done)
      | (simp_all; rw [Bool.eq_iff_iff]; simp <;> omega)
end Go.Proofs.Ytegkclehijdbiaa.V1

set_option linter.unusedSimpArgs false
set_option linter.unusedVariables false
namespace Go.Proofs.Ytegkclehijdbiaa.V2
open Go.RowKit Go.Proofs.YtegkclehijdbiaaW.PrintWords Go.Proofs.YtegkclehijdbiaaW.PrintLast Go.Proofs.Ytegkclehijdbiaa.V1

def allV (l : List Vl) : Nat → Bool
  | 0 => true
  | k + 1 => allV l k && okV (el l k)
theorem allV_no {l : List Vl} {k : Nat} (h : okV (el l k) = false) : ∀ {n : Nat}, k < n → allV l n = false
  | n + 1, hk => by
    by_cases e : k = n
    · subst e; simp [allV, h]
    · simp [allV, allV_no h (n := n) (by omega)]
theorem allV_at {l : List Vl} {n : Nat} (h : allV l n = true) {k : Nat} (hk : k < n) : okV (el l k) = true := by
  cases e : okV (el l k) with
  | true => rfl
  | false => rw [allV_no e hk] at h; cases h

set_option maxHeartbeats 1000000 in
theorem all46 (A : Option Addr) (n c : Nat) (l : List Vl) (w : World) (hr : RdV w A n l) : Calls Try.prog 46 #[.slice A n c] w fun e w' => e = .returned (.bool (allV l n)) ∧ Below w.heap.size w w' := by
  have hn := hr.2.1
  go_enter Try.func46, Try.ntmps46
  go_wp2
  go_loopw [3] (fun i wr => ∃ k : Nat, i = .int .i64 k ∧ k ≤ n ∧ Hid (allV l k = true) ∧ Below w.heap.size w wr) (fun i _ => n - (intOf i).toNat)
  case atStart => exact ⟨0, rfl, by omega, rfl, Below.refl _ _⟩
  case round =>
    obtain ⟨k, rfl, hk, hok, bel⟩ := hrel
    by_cases hlt : k < n
    · obtain ⟨g, o, rfl, ⟨c0, c1, c2, hf⟩, q2⟩ := (rdV_below hr bel).at_ hlt
      have q0 : (0 : Int) ≤ (k : Int) := by omega
      have q1 : (k : Int) < (n : Int) := by omega
      have hf := Lib.hid hf
      clear hr
      go_wp2_with fail
      (with_reducible refine (right75 (el l k) _ hf.out).mono ?_)
      rintro e W1 ⟨rfl, hB⟩
      have P := bel.trans (hB.mono bel.size)
      cases ho : okV (el l k) with
      | true =>
        have hok2 : Hid (allV l (k + 1) = true) := by show _ = _; simp [allV, hok.out, ho]
        clear c0 c1 c2
        go_wp2
        go_roundw
        case rel => exact ⟨k + 1, by go_num, by omega, hok2, P⟩
        case measure => simp [intOf] <;> omega
      | false =>
        have hno := Lib.hid (allV_no ho hlt)
        clear c0 c1 c2
        go_wp2
        go_ret
        exact ⟨by rw [hno.out]; rfl, P⟩
    · obtain rfl : k = n := by omega
      go_wp2
      go_ret
      exact ⟨by rw [hok.out]; rfl, bel⟩

/-- Where the first wrong value is, or -1. -/
def IdxR (w : World) (b : Bool) (n : Nat) (e : Ending) (w' : World) : Prop := ∃ r : Int, e = .returned (.int .i64 r) ∧ (decide (0 ≤ r)) = !b ∧ -1 ≤ r ∧ r ≤ n ∧ Below w.heap.size w w'
set_option maxHeartbeats 1000000 in
theorem idx111 (A : Option Addr) (n c : Nat) (l : List Vl) (w : World) (hr : RdV w A n l) : Calls Try.prog 111 #[.slice A n c, .func (.func 106) #[] #[]] w (IdxR w (allV l n) n) := by
  have hn := hr.2.1
  go_enter Try.func111, Try.ntmps111
  go_wp2
  go_loopw [8] (fun i wr => ∃ k : Nat, i = .int .i64 k ∧ k ≤ n ∧ Hid (allV l k = true) ∧ Below w.heap.size w wr) (fun i _ => n - (intOf i).toNat)
  case atStart => exact ⟨0, rfl, by omega, rfl, Below.refl _ _⟩
  case round =>
    obtain ⟨k, rfl, hk, hok, bel⟩ := hrel
    by_cases hlt : k < n
    · obtain ⟨g, o, rfl, ⟨c0, c1, c2, hf⟩, q2⟩ := (rdV_below hr bel).at_ hlt
      have q0 : (0 : Int) ≤ (k : Int) := by omega
      have q1 : (k : Int) < (n : Int) := by omega
      have hf := Lib.hid hf
      clear hr
      go_wp2_with fail
      (with_reducible refine (wrong106 (el l k) _ hf.out).mono ?_)
      rintro e W1 ⟨rfl, hB⟩
      have P := bel.trans (hB.mono bel.size)
      cases ho : okV (el l k) with
      | true =>
        have hok2 : Hid (allV l (k + 1) = true) := by show _ = _; simp [allV, hok.out, ho]
        clear c0 c1 c2
        go_wp2
        go_roundw
        case rel => exact ⟨k + 1, by go_num, by omega, hok2, P⟩
        case measure => simp [intOf] <;> omega
      | false =>
        have hno := Lib.hid (allV_no ho hlt)
        clear c0 c1 c2
        go_wp2
        go_ret
        exact ⟨k, rfl, by rw [hno.out]; simp, by omega, by omega, P⟩
    · obtain rfl : k = n := by omega
      go_wp2
      go_ret
      exact ⟨-1, rfl, by rw [hok.out]; rfl, by omega, by omega, bel⟩
set_option maxHeartbeats 400000 in
theorem con105 (A : Option Addr) (n c : Nat) (l : List Vl) (w : World) (hr : RdV w A n l) : Calls Try.prog 105 #[.slice A n c, .func (.func 106) #[] #[]] w fun e w' => e = .returned (.bool (!allV l n)) ∧ Below w.heap.size w w' := by
  go_enter Try.func105, Try.ntmps105
  go_wp2_with fail
  (with_reducible refine (idx111 A n c l _ hr).mono ?_)
  rintro e W1 ⟨r, rfl, h1, h2, h3, hB⟩
  have h1 := Lib.hid h1
  go_wp2
  go_ret
  exact ⟨by rw [← h1.out]; rfl, hB⟩
set_option maxHeartbeats 400000 in
theorem right97 (A : Option Addr) (n c : Nat) (l : List Vl) (w : World) (hr : RdV w A n l) : Calls Try.prog 97 #[.slice A n c] w fun e w' => e = .returned (.bool (allV l n)) ∧ Below w.heap.size w w' := by
  go_enter Try.func97, Try.ntmps97
  go_wp2_with fail
  (with_reducible refine (con105 A n c l _ hr).mono ?_)
  rintro e W1 ⟨rfl, hB⟩
  go_wp2
  go_ret
  exact ⟨by simp, hB⟩
end Go.Proofs.Ytegkclehijdbiaa.V2

set_option linter.unusedSimpArgs false
set_option linter.unusedVariables false
namespace Go.Proofs.Ytegkclehijdbiaa.V3
open Go.RowKit Go.Proofs.YtegkclehijdbiaaW.PrintWords Go.Proofs.YtegkclehijdbiaaW.PrintLast Go.Proofs.Ytegkclehijdbiaa.V1 Go.Proofs.Ytegkclehijdbiaa.V2

/-- A column. -/
structure Cl where
  s : ByteArray
  k : Int
instance : Inhabited Cl := ⟨⟨ByteArray.empty, 0⟩⟩
structure Cl.Fit (c : Cl) : Prop where
  k0 : -9223372036854775808 ≤ c.k
  k1 : c.k ≤ 9223372036854775807
  s1 : c.s.size ≤ 9223372036854775807
def atC (w : World) (g o : Nat) (v : Cl) : Prop := w.cell? ⟨g, o, none⟩ = some (.string v.s) ∧ w.cell? ⟨g, o + 1, none⟩ = some (.int .i64 v.k) ∧ v.Fit
theorem atC.below {w w' : World} {g o : Nat} {v : Cl} (h : atC w g o v) (hb : Below w.heap.size w w') : atC w' g o v := ⟨pw_cell_below hb h.1, pw_cell_below hb h.2.1, h.2.2⟩
abbrev RdC := Rd 2 atC
theorem rdC_below {w w' : World} {A : Option Addr} {n : Nat} {l : List Cl} (h : RdC w A n l) (hb : Below w.heap.size w w') : RdC w' A n l := Rd.below (P := atC) (fun h hb => atC.below h hb) h hb
/-- A row among rows. -/
def atR (w : World) (g o : Nat) (l : List Vl) : Prop := ∃ A n c, w.cell? ⟨g, o, none⟩ = some (.slice A n c) ∧ RdV w A n l ∧ n ≤ c ∧ c ≤ 9223372036854775807
theorem atR.below {w w' : World} {g o : Nat} {l : List Vl} (h : atR w g o l) (hb : Below w.heap.size w w') : atR w' g o l := by
  obtain ⟨A, n, c, h1, h2, h3, h4⟩ := h
  exact ⟨A, n, c, pw_cell_below hb h1, rdV_below h2 hb, h3, h4⟩
abbrev RdR := Rd 1 atR
theorem rdR_below {w w' : World} {A : Option Addr} {n : Nat} {l : List (List Vl)} (h : RdR w A n l) (hb : Below w.heap.size w w') : RdR w' A n l := Rd.below (P := atR) (fun h hb => atR.below h hb) h hb

/-- The kinds are the columns'. -/
def kindB (cs : List Cl) (l : List Vl) : Nat → Bool
  | 0 => true
  | k + 1 => kindB cs l k && ((el l k).k == (el cs k).k)
theorem kindB_no {cs : List Cl} {l : List Vl} {k : Nat} (h : ((el l k).k == (el cs k).k) = false) : ∀ {n : Nat}, k < n → kindB cs l n = false
  | n + 1, hk => by
    by_cases e : k = n
    · subst e; simp only [kindB, h, Bool.and_false]
    · simp only [kindB, kindB_no h (n := n) (by omega), Bool.false_and]
def fitRow (cs : List Cl) (l : List Vl) : Bool := (l.length == cs.length) && allV l l.length && kindB cs l l.length
def fitAll (cs : List Cl) (ls : List (List Vl)) : Nat → Bool
  | 0 => true
  | k + 1 => fitAll cs ls k && fitRow cs (el ls k)
theorem fitAll_no {cs : List Cl} {ls : List (List Vl)} {k : Nat} (h : fitRow cs (el ls k) = false) : ∀ {n : Nat}, k < n → fitAll cs ls n = false
  | n + 1, hk => by
    by_cases e : k = n
    · subst e; simp only [fitAll, h, Bool.and_false]
    · simp only [fitAll, fitAll_no h (n := n) (by omega), Bool.false_and]
def fitsB (cs : List Cl) (ls : List (List Vl)) : Bool := fitAll cs ls ls.length && decide ((ls.length : Int) ≤ 32)

set_option maxHeartbeats 2000000 in
/-- The reference's Fits, of columns alone. -/
theorem fits66 (nm : ByteArray) (A B : Option Addr) (n c m d : Nat) (cs : List Cl) (l : List Vl) (w : World) (hc : RdC w A n cs) (hr : RdV w B m l) :
    Calls Try.prog 66 #[.agg #[.string nm, .slice A n c, .slice none 0 0, .int .i64 0, .int .i64 0, .int .i64 0], .slice B m d] w fun e w' => e = .returned (.bool (fitRow cs l)) ∧ Below w.heap.size w w' := by
  have hn := hc.2.1
  have hm := hr.2.1
  have hlc := hc.1
  have hlr := hr.1
  have hv := Lib.hid (show fitRow cs l = ((l.length == cs.length) && allV l l.length && kindB cs l l.length) from rfl)
  rw [hlc, hlr] at hv
  have hlc := Lib.hid hlc
  have hlr := Lib.hid hlr
  go_enter Try.func66, Try.ntmps66
  have f1 : (w.alloc (.cells #[.string nm, .slice A n c, .slice none 0 0, .int .i64 0, .int .i64 0, .int .i64 0] 107)).cell? ⟨w.heap.size, 1, none⟩ = some (.slice A n c) := by go_simp
  have P0 : Below w.heap.size w (w.alloc (.cells #[.string nm, .slice A n c, .slice none 0 0, .int .i64 0, .int .i64 0, .int .i64 0] 107)) := by go_grown
  have hc0 := rdC_below hc P0
  have hr0 := rdV_below hr P0
  by_cases hmn : m = n
  · subst hmn
    go_wp2_with fail
    generalize w.alloc (.cells #[.string nm, .slice A m c, .slice none 0 0, .int .i64 0, .int .i64 0, .int .i64 0] 107) = W0 at *
    (with_reducible refine (all46 B m d l _ hr0).mono ?_)
    rintro e W1 ⟨rfl, hB1⟩
    have f1 := pw_cell_below hB1 f1
    have hc1 := rdC_below hc0 hB1
    have hr1 := rdV_below hr0 hB1
    have P1 := P0.trans (hB1.mono P0.size)
    clear hB1 hc hr hc0 hr0 P0
    cases ha : allV l m with
    | false =>
      have hF : Hid (fitRow cs l = false) := by show _ = _; rw [hv.out, ha]; simp
      go_wp2
      go_ret
      exact ⟨by rw [hF.out]; rfl, P1⟩
    | true =>
      have ha := Lib.hid ha
      go_wp2
      go_loopw [5] (fun i wr => ∃ k : Nat, i = .int .i64 k ∧ k ≤ m ∧ Hid (kindB cs l k = true) ∧ ∃ q, wr = W1.drewN q) (fun i _ => m - (intOf i).toNat)
      case atStart => exact ⟨0, rfl, by omega, rfl, 0, rfl⟩
      case round =>
        obtain ⟨k, rfl, hk, hok, q, rfl⟩ := hrel
        by_cases hlt : k < m
        · obtain ⟨g, o, rfl, ⟨c0, c1, c2, hf⟩, q2⟩ := hr1.at_ hlt
          obtain ⟨g', o', rfl, ⟨d0, d1, hf'⟩, q2'⟩ := hc1.at_ hlt
          have q0 : (0 : Int) ≤ (k : Int) := by omega
          have q1 : (k : Int) < (m : Int) := by omega
          go_wp2
          go_quiet (fail)
          cases he : ((el l k).k == (el cs k).k) with
          | true =>
            have hok2 : Hid (kindB cs l (k + 1) = true) := by show _ = _; simp only [kindB, hok.out, he, Bool.and_self]
            have he2 : (el l k).k = (el cs k).k := by simpa using he
            go_wp2
            go_roundw
            case rel => exact ⟨k + 1, by go_num, by omega, hok2, _, rfl⟩
            case measure => simp [intOf] <;> omega
          | false =>
            have hF : Hid (fitRow cs l = false) := by show _ = _; rw [hv.out, kindB_no he hlt]; simp
            have he2 : (el l k).k ≠ (el cs k).k := by simpa using he
            go_wp2
            go_ret
            exact ⟨by rw [hF.out]; rfl, pw_below_drewN (pw_below_drewN P1 _) _⟩
        · obtain rfl : k = m := by omega
          have hF : Hid (fitRow cs l = true) := by show _ = _; rw [hv.out, ha.out, hok.out]; simp
          go_wp2
          go_ret
          exact ⟨by rw [hF.out]; rfl, pw_below_drewN P1 _⟩
  · have hF : Hid (fitRow cs l = false) := by show _ = _; rw [hv.out, show (m == n) = false by simpa using hmn]; simp
    go_wp2
    go_ret
    exact ⟨by rw [hF.out]; rfl, P0⟩

set_option maxHeartbeats 1000000 in
/-- The law's fits. -/
theorem fits18 (A B : Option Addr) (n c m d : Nat) (cs : List Cl) (ls : List (List Vl)) (w : World) (hc : RdC w A n cs) (hr : RdR w B m ls) :
    Calls Try.prog 18 #[.slice A n c, .slice B m d] w fun e w' => e = .returned (.bool (fitsB cs ls)) ∧ Below w.heap.size w w' := by
  have hm := hr.2.1
  have hlr := hr.1
  have hv := Lib.hid (show fitsB cs ls = (fitAll cs ls ls.length && decide ((ls.length : Int) ≤ 32)) from rfl)
  rw [hlr] at hv
  have hlr := Lib.hid hlr
  go_enter Try.func18, Try.ntmps18
  go_wp2
  go_loopw [5] (fun i wr => ∃ k : Nat, i = .int .i64 k ∧ k ≤ m ∧ Hid (fitAll cs ls k = true) ∧ Below w.heap.size w wr) (fun i _ => m - (intOf i).toNat)
  case atStart => exact ⟨0, rfl, by omega, rfl, Below.refl _ _⟩
  case round =>
    obtain ⟨k, rfl, hk, hok, bel⟩ := hrel
    by_cases hlt : k < m
    · obtain ⟨g, o, rfl, ⟨A1, n1, c1, z0, hr1, z1, z2⟩, q2⟩ := (rdR_below hr bel).at_ hlt
      rw [Nat.mul_one] at q2 z0
      have q0 : (0 : Int) ≤ (k : Int) := by omega
      have q1 : (k : Int) < (m : Int) := by omega
      go_wp2_with fail
      (with_reducible refine (fits66 _ A A1 n c n1 c1 cs (el ls k) _ (rdC_below hc bel) hr1).mono ?_)
      rintro e W1 ⟨rfl, hB1⟩
      have P := bel.trans (hB1.mono bel.size)
      cases ho : fitRow cs (el ls k) with
      | true =>
        have hok2 : Hid (fitAll cs ls (k + 1) = true) := by show _ = _; simp only [fitAll, hok.out, ho, Bool.and_self]
        clear z0
        go_wp2
        go_roundw
        case rel => exact ⟨k + 1, by go_num, by omega, hok2, P⟩
        case measure => simp [intOf] <;> omega
      | false =>
        have hF : Hid (fitsB cs ls = false) := by show _ = _; rw [hv.out, fitAll_no ho hlt]; simp
        clear z0
        go_wp2
        go_ret
        exact ⟨by rw [hF.out]; rfl, P⟩
    · obtain rfl : k = m := by omega
      have hF : Hid (fitsB cs ls = decide ((k : Int) ≤ 32)) := by show _ = _; rw [hv.out, hok.out]; simp
      go_wp2
      go_ret
      exact ⟨by rw [hF.out]; rfl, bel⟩

set_option maxHeartbeats 2000000 in
/-- The program's fits. -/
theorem fits67 (nm : ByteArray) (A B : Option Addr) (n c m d : Nat) (cs : List Cl) (ls : List (List Vl)) (w : World) (hc : RdC w A n cs) (hr : RdR w B m ls) :
    Calls Try.prog 67 #[.agg #[.string nm, .slice A n c], .slice B m d] w fun e w' => e = .returned (.bool (fitsB cs ls)) ∧ Below w.heap.size w w' := by
  have hm := hr.2.1
  have hn := hc.2.1
  have hlr := hr.1
  have hlc := Lib.hid hc.1
  have hv := Lib.hid (show fitsB cs ls = (fitAll cs ls ls.length && decide ((ls.length : Int) ≤ 32)) from rfl)
  rw [hlr] at hv
  have hlr := Lib.hid hlr
  go_enter Try.func67, Try.ntmps67
  have f1 : (w.alloc (.cells #[.string nm, .slice A n c] 111)).cell? ⟨w.heap.size, 1, none⟩ = some (.slice A n c) := by go_simp
  have P0 : Below w.heap.size w (w.alloc (.cells #[.string nm, .slice A n c] 111)) := by go_grown
  have hc := rdC_below hc P0
  have hr := rdR_below hr P0
  go_wp2
  generalize w.alloc (.cells #[.string nm, .slice A n c] 111) = W0 at *
  go_loopw [11] (fun i wr => ∃ k : Nat, i = .int .i64 k ∧ k ≤ m ∧ Hid (fitAll cs ls k = true) ∧ Below W0.heap.size W0 wr) (fun i _ => m - (intOf i).toNat)
  case atStart => exact ⟨0, rfl, by omega, rfl, Below.refl _ _⟩
  case round =>
    obtain ⟨k, rfl, hk, hok, bel⟩ := hrel
    have g1 := pw_cell_below bel f1
    by_cases hlt : k < m
    · obtain ⟨g, o, rfl, ⟨A1, n1, c1, z0, hr1, z1, z2⟩, q2⟩ := (rdR_below hr bel).at_ hlt
      rw [Nat.mul_one] at q2 z0
      have q0 : (0 : Int) ≤ (k : Int) := by omega
      have q1 : (k : Int) < (m : Int) := by omega
      have hn1 := hr1.2.1
      have hvr := Lib.hid (show fitRow cs (el ls k) = (((el ls k).length == cs.length) && allV (el ls k) (el ls k).length && kindB cs (el ls k) (el ls k).length) from rfl)
      rw [hlc.out, hr1.1] at hvr
      by_cases hmn : n1 = n
      · subst hmn
        go_wp2_with fail
        (with_reducible refine (right97 A1 n1 c1 (el ls k) _ hr1).mono ?_)
        rintro e W1 ⟨rfl, hB1⟩
        have P1 := bel.trans (hB1.mono bel.size)
        have g2 := pw_cell_below P1 f1
        clear g1 z0
        cases ha : allV (el ls k) n1 with
        | false =>
          have hF : Hid (fitsB cs ls = false) := by show _ = _; rw [hv.out, fitAll_no (by rw [hvr.out, ha]; simp) hlt]; simp
          go_wp2
          go_ret
          exact ⟨by rw [hF.out]; rfl, P0.trans (P1.mono P0.size)⟩
        | true =>
          have ha := Lib.hid ha
          have hcX := rdC_below hc P1
          have hrX := rdV_below hr1 hB1
          go_wp2
          clear g2
          go_loopw [29] (fun i wr => ∃ j : Nat, i = .int .i64 j ∧ j ≤ n1 ∧ Hid (kindB cs (el ls k) j = true) ∧ Below W1.heap.size W1 wr) (fun i _ => n1 - (intOf i).toNat)
          case atStart => exact ⟨0, rfl, by omega, rfl, Below.refl _ _⟩
          case round =>
            obtain ⟨j, rfl, hj, hkj, bel2⟩ := hrel
            have P2 := P1.trans (bel2.mono P1.size)
            have g3 := pw_cell_below P2 f1
            by_cases hltj : j < n1
            · obtain ⟨g', o', rfl, ⟨c0, c1', c2, hf⟩, q3⟩ := (rdV_below hrX bel2).at_ hltj
              obtain ⟨g'', o'', rfl, ⟨d0, d1, hf'⟩, q4⟩ := (rdC_below hcX bel2).at_ hltj
              have q5 : (0 : Int) ≤ (j : Int) := by omega
              have q6 : (j : Int) < (n1 : Int) := by omega
              go_upto_region 9 with fail
              have P3 : Below wr.heap.size wr (wr.alloc (.cells #[.int .i64 (el (el ls k) j).k, .int .i64 (el (el ls k) j).n, .string (el (el ls k) j).s] 56)) := by go_grown
              have e0 : (wr.alloc (.cells #[.int .i64 (el (el ls k) j).k, .int .i64 (el (el ls k) j).n, .string (el (el ls k) j).s] 56)).cell? ⟨wr.heap.size, 0, none⟩ = some (.int .i64 (el (el ls k) j).k) := by go_simp
              have g4 := pw_cell_below P3 g3
              have d4 := pw_cell_below P3 d1
              have P4 := bel2.trans (P3.mono bel2.size)
              clear g3 d1 d0 c0 c1' c2
              generalize wr.alloc (.cells #[.int .i64 (el (el ls k) j).k, .int .i64 (el (el ls k) j).n, .string (el (el ls k) j).s] 56) = X at *
              go_quiet (fail)
              cases he : ((el (el ls k) j).k == (el cs j).k) with
              | true =>
                have hok2 : Hid (kindB cs (el ls k) (j + 1) = true) := by show _ = _; simp only [kindB, hkj.out, he, Bool.and_self]
                have he2 : (el (el ls k) j).k = (el cs j).k := by simpa using he
                go_wp2
                go_roundw
                case rel => exact ⟨j + 1, by go_num, by omega, hok2, pw_below_drewN P4 _⟩
                case measure => simp [intOf] <;> omega
              | false =>
                have hF : Hid (fitsB cs ls = false) := by show _ = _; rw [hv.out, fitAll_no (by rw [hvr.out, kindB_no he hltj]; simp) hlt]; simp
                have he2 : (el (el ls k) j).k ≠ (el cs j).k := by simpa using he
                go_wp2
                go_ret
                exact ⟨by rw [hF.out]; rfl, P0.trans ((pw_below_drewN (P1.trans (P4.mono P1.size)) _).mono P0.size)⟩
            · obtain rfl : j = n1 := by omega
              have hok2 : Hid (fitAll cs ls (k + 1) = true) := by show _ = _; simp only [fitAll, hok.out, hvr.out, ha.out, hkj.out]; simp
              go_wp2
              go_roundw
              case rel => exact ⟨k + 1, by go_num, by omega, hok2, P2⟩
              case measure => simp [intOf] <;> omega
      · have hF : Hid (fitsB cs ls = false) := by show _ = _; rw [hv.out, fitAll_no (by rw [hvr.out, show (n1 == n) = false by simpa using hmn]; simp) hlt]; simp
        go_wp2
        go_ret
        exact ⟨by rw [hF.out]; rfl, P0.trans (bel.mono P0.size)⟩
    · obtain rfl : k = m := by omega
      have hF : Hid (fitsB cs ls = decide ((k : Int) ≤ 32)) := by show _ = _; rw [hv.out, hok.out]; simp
      go_wp2
      go_ret
      exact ⟨by rw [hF.out]; rfl, P0.trans (bel.mono P0.size)⟩

set_option maxHeartbeats 1000000 in
/-- stream.Fits. -/
theorem fits22 (A B : Option Addr) (n c m d : Nat) (cs : List Cl) (ls : List (List Vl)) (w : World) (hc : RdC w A n cs) (hr : RdR w B m ls) :
    Calls Try.prog 22 #[.slice A n c, .slice B m d] w fun e w' => e = .returned (.bool (fitsB cs ls)) ∧ Below w.heap.size w w' := by
  go_enter Try.func22, Try.ntmps22
  go_wp2_with fail
  (with_reducible refine (fits67 _ A B n c m d cs ls _ hc hr).mono ?_)
  rintro e W1 ⟨rfl, hB1⟩
  go_wp2
  go_ret
  exact ⟨rfl, hB1⟩
end Go.Proofs.Ytegkclehijdbiaa.V3

set_option linter.unusedSimpArgs false
set_option linter.unusedVariables false
namespace Go.Proofs.Ytegkclehijdbiaa.V4
open Go.RowKit Go.Proofs.YtegkclehijdbiaaW.PrintWords Go.Proofs.YtegkclehijdbiaaW.PrintLast Go.Proofs.Ytegkclehijdbiaa.V1 Go.Proofs.Ytegkclehijdbiaa.V2 Go.Proofs.Ytegkclehijdbiaa.V3

def letB (c : Int) : Bool := decide (97 ≤ c) && decide (c ≤ 122)
def partB (c : Int) : Bool := letB c || (decide (48 ≤ c) && decide (c ≤ 57)) || c == 95
def allP (s : ByteArray) : Nat → Bool
  | 0 => true
  | k + 1 => allP s k && partB (bt s k)
theorem allP_no {s : ByteArray} {k : Nat} (h : partB (bt s k) = false) : ∀ {n : Nat}, k < n → allP s n = false
  | n + 1, hk => by
    by_cases e : k = n
    · subst e; simp only [allP, h, Bool.and_false]
    · simp only [allP, allP_no h (n := n) (by omega), Bool.false_and]
/-- It is a name. -/
def namB (s : ByteArray) : Bool := decide (0 < s.size) && decide (s.size ≤ 16) && letB (bt s 0) && allP s s.size

set_option maxHeartbeats 400000 in
theorem letter112 (c : Int) (w : World) (h0 : 0 ≤ c) (h1 : c ≤ 255) : Calls Try.prog 112 #[.int .u8 c] w fun e w' => e = .returned (.bool (letB c)) ∧ w = w' := by
  have hv := Lib.hid (show letB c = (decide (97 ≤ c) && decide (c ≤ 122)) from rfl)
  generalize letB c = b at *
  by_cases l1 : 97 ≤ c <;> by_cases l2 : c ≤ 122
  all_goals
    go_enter Try.func112, Try.ntmps112
    go_wp2
    go_ret
    exact ⟨by rw [hv.out]; simp [l1, l2], rfl⟩
set_option maxHeartbeats 400000 in
theorem part113 (c : Int) (w : World) (h0 : 0 ≤ c) (h1 : c ≤ 255) : Calls Try.prog 113 #[.int .u8 c] w fun e w' => e = .returned (.bool (partB c)) ∧ w = w' := by
  have hv := Lib.hid (show partB c = (letB c || (decide (48 ≤ c) && decide (c ≤ 57)) || c == 95) from rfl)
  generalize partB c = b at *
  go_enter Try.func113, Try.ntmps113
  go_wp2_with fail
  (with_reducible refine (letter112 c _ h0 h1).mono ?_)
  rintro e W1 ⟨rfl, rfl⟩
  generalize letB c = lb at *
  cases lb <;> by_cases l1 : 48 ≤ c <;> by_cases l2 : c ≤ 57 <;> by_cases l3 : c = 95
  all_goals first
    | (exfalso; omega)
    | (have l4 : (c == 95) = decide (c = 95) := by rw [Bool.eq_iff_iff]; simp
       go_wp2
       go_ret
       exact ⟨by rw [hv.out]; simp [l1, l2, l3], rfl⟩)

set_option maxHeartbeats 1000000 in
/-- schema.named. -/
theorem named107 (s : ByteArray) (w : World) (hs : s.size ≤ 9223372036854775807) : Calls Try.prog 107 #[.string s] w fun e w' => e = .returned (.bool (namB s)) ∧ Below w.heap.size w w' := by
  have hv := Lib.hid (show namB s = (decide (0 < s.size) && decide (s.size ≤ 16) && letB (bt s 0) && allP s s.size) from rfl)
  by_cases z0 : 0 < s.size
  · have e0 := empty_no z0
    by_cases z1 : 16 < s.size
    · have hF : Hid (namB s = false) := by show _ = _; rw [hv.out, show decide (s.size ≤ 16) = false from decide_eq_false (by omega)]; simp
      go_enter Try.func107, Try.ntmps107
      go_wp2
      go_ret
      exact ⟨by rw [hF.out]; rfl, Below.refl _ _⟩
    · have hx : ∀ h : 0 < s.size, ((s[0]'h).toNat : Int) = bt s 0 := bt_at s 0
      obtain ⟨b0, b1⟩ := bt_range s 0
      have kb := fun W => print_bytes (P := Try.prog) 9 60 5 Try.underlying9 Try.underlying60 Try.underlying5 s W
      have hrd := bytes_reads w 5 s hs
      have hB0 := bytes_below (Below.refl w.heap.size w) (Nat.le_refl _) 5 s
      have hv2 : Hid (namB s = (letB (bt s 0) && allP s s.size)) := by show _ = _; rw [hv.out, show decide (s.size ≤ 16) = true from decide_eq_true (by omega), show decide (0 < s.size) = true by simpa using z0]; simp
      go_enter Try.func107, Try.ntmps107
      go_wp2_with fail
      (with_reducible refine (letter112 (bt s 0) _ b0 b1).mono ?_)
      rintro e W1 ⟨rfl, rfl⟩
      cases hl : letB (bt s 0) with
      | false =>
        have hF : Hid (namB s = false) := by show _ = _; rw [hv2.out, hl]; rfl
        go_wp2
        go_ret
        exact ⟨by rw [hF.out]; rfl, Below.refl _ _⟩
      | true =>
        have hl := Lib.hid hl
        go_wp2
        generalize Lib.bytesWorld w 5 s = W1 at *
        clear kb hx e0
        go_loopw [21] (fun i wr => ∃ k : Nat, i = .int .i64 k ∧ k ≤ s.size ∧ Hid (allP s k = true) ∧ ∃ q, wr = W1.drewN q) (fun i _ => s.size - (intOf i).toNat)
        case atStart => exact ⟨0, rfl, by omega, rfl, 0, rfl⟩
        case round =>
          obtain ⟨k, rfl, hk, hok, q, rfl⟩ := hrel
          by_cases hlt : k < s.size
          · obtain ⟨ad, had, hcx⟩ := hrd.at_ k (by omega) (by omega)
            cases had
            rw [Int.toNat_natCast, add_plain, rd_bytesOf] at hcx
            have q0 : (0 : Int) ≤ (k : Int) := by omega
            have q1 : (k : Int) < (s.size : Int) := by omega
            obtain ⟨x0, x1⟩ := bt_range s k
            go_wp2_with fail
            (with_reducible refine (part113 (bt s k) _ x0 x1).mono ?_)
            rintro e W2 ⟨rfl, rfl⟩
            cases ho : partB (bt s k) with
            | true =>
              have hok2 : Hid (allP s (k + 1) = true) := by show _ = _; simp only [allP, hok.out, ho, Bool.and_self]
              go_wp2
              go_roundw
              case rel => exact ⟨k + 1, by go_num, by omega, hok2, _, rfl⟩
              case measure => simp [intOf] <;> omega
            | false =>
              have hF : Hid (namB s = false) := by show _ = _; rw [hv2.out, allP_no ho hlt]; simp
              go_wp2
              go_ret
              exact ⟨by rw [hF.out]; rfl, pw_below_drewN hB0 _⟩
          · obtain rfl : k = s.size := by omega
            have hF : Hid (namB s = true) := by show _ = _; rw [hv2.out, hl.out, hok.out]; rfl
            go_wp2
            go_ret
            exact ⟨by rw [hF.out]; rfl, pw_below_drewN hB0 _⟩
  · have e0 := empty_yes (s := s) (by omega)
    have hF : Hid (namB s = false) := by show _ = _; rw [hv.out, show decide (0 < s.size) = false from decide_eq_false (by omega)]; simp
    go_enter Try.func107, Try.ntmps107
    go_wp2
    go_ret
    exact ⟨by rw [hF.out]; rfl, Below.refl _ _⟩

theorem nam_first {s : ByteArray} {c : Int} (h : partB c = false) : letB c = false := by
  cases e : letB c with
  | false => rfl
  | true => simp [partB, e] at h
set_option maxHeartbeats 2000000 in
/-- The reference's Named. -/
theorem named95 (s : ByteArray) (w : World) (hs : s.size ≤ 9223372036854775807) : Calls Try.prog 95 #[.string s] w fun e w' => e = .returned (.bool (namB s)) ∧ Below w.heap.size w w' := by
  have hv := Lib.hid (show namB s = (decide (0 < s.size) && decide (s.size ≤ 16) && letB (bt s 0) && allP s s.size) from rfl)
  by_cases z : 0 < s.size ∧ s.size ≤ 16
  · obtain ⟨z0, z1⟩ := z
    have hv2 : Hid (namB s = (letB (bt s 0) && allP s s.size)) := by show _ = _; rw [hv.out, show decide (s.size ≤ 16) = true by simpa using z1, show decide (0 < s.size) = true by simpa using z0]; simp
    go_enter Try.func95, Try.ntmps95
    go_wp2
    go_loopw [3] (fun i wr => ∃ k : Nat, i = .int .i64 k ∧ k ≤ s.size ∧ Hid (allP s k = true) ∧ Hid (0 < k → letB (bt s 0) = true) ∧ ∃ q, wr = w.drewN q) (fun i _ => s.size - (intOf i).toNat)
    case atStart => exact ⟨0, rfl, by omega, rfl, fun h => by omega, 0, rfl⟩
    case round =>
      obtain ⟨k, rfl, hk, hok, hfi, q, rfl⟩ := hrel
      by_cases hlt : k < s.size
      · have hxk : ∀ h : k < s.size, ((s[k]'h).toNat : Int) = bt s k := bt_at s k
        have q0 : (0 : Int) ≤ (k : Int) := by omega
        have q1 : (k : Int) < (s.size : Int) := by omega
        obtain ⟨x0, x1⟩ := bt_range s k
        generalize hc : bt s k = c at *
        have hc2 := Lib.hid hc
        clear hc
        have hc := hc2
        clear hc2
        by_cases l0 : 97 ≤ c ∧ c ≤ 122
        · have hlt' : letB c = true := by simp [letB, l0.1, l0.2]
          obtain ⟨l1, l2⟩ := l0
          have hok2 : Hid (allP s (k + 1) = true) := by show _ = _; simp only [allP, hok.out, hc.out, partB, hlt']; simp
          have hf2 : Hid (0 < k + 1 → letB (bt s 0) = true) := fun _ => by
            by_cases e : k = 0
            · subst e; rw [show ((0 : Nat) : Int) = 0 from rfl] at hc; rw [hc.out]; exact hlt'
            · exact hfi.out (by omega)
          go_wp2
          go_roundw
          case rel => exact ⟨k + 1, by go_num, by omega, hok2, hf2, _, rfl⟩
          case measure => simp [intOf] <;> omega
        · have hlf : letB c = false := by
            unfold letB
            by_cases l1 : 97 ≤ c
            · rw [decide_eq_false (show ¬ c ≤ 122 from fun h => l0 ⟨l1, h⟩)]; simp
            · rw [decide_eq_false l1]; simp
          have l1 : c < 97 ∨ 122 < c := by omega
          by_cases hk0 : k = 0
          · have hc0 : bt s 0 = c := by have := hc.out; rw [hk0] at this; exact this
            have hF : Hid (namB s = false) := by show _ = _; rw [hv2.out, hc0, hlf]; rfl
            have k0t : ((k : Int) == 0) = true := by rw [beq_iff_eq]; omega
            clear hk0 hc0
            rcases l1 with l1 | l1
            all_goals
              clear hlf l0
              go_wp2
              all_goals first
                | (exfalso; omega)
                | (exfalso; simp_all; done)
                | (exfalso; simp_all; omega)
                | (go_ret; exact ⟨by rw [hF.out]; rfl, pw_below_drewN (Below.refl _ _) _⟩)
          · have k0b : ((k : Int) == 0) = false := by rw [beq_eq_false_iff_ne]; omega
            by_cases l2 : (48 ≤ c ∧ c ≤ 57) ∨ c = 95
            · have hp : partB c = true := by
                rcases l2 with ⟨a, b⟩ | a
                · simp [partB, a, b]
                · subst a; simp [partB]
              have hok2 : Hid (allP s (k + 1) = true) := by show _ = _; simp only [allP, hok.out, hc.out, hp]; rfl
              have hf2 : Hid (0 < k + 1 → letB (bt s 0) = true) := fun _ => hfi.out (by omega)
              clear hlf l0 hp
              have l3 : (48 ≤ c ∧ c ≤ 57 ∧ c < 97) ∨ (c = 95) := by omega
              clear l1 l2
              rcases l3 with ⟨a, b, l1⟩ | rfl
              all_goals
                go_wp2
                go_roundw
                case rel => exact ⟨k + 1, by go_num, by omega, hok2, hf2, _, rfl⟩
                case measure => simp [intOf] <;> omega
            · have hp : partB c = false := by
                have a1 : (decide (48 ≤ c) && decide (c ≤ 57)) = false := by
                  rw [Bool.eq_iff_iff]; simp; omega
                have a2 : (c == 95) = false := by rw [beq_eq_false_iff_ne]; omega
                simp only [partB, hlf, a1, a2]; rfl
              have hF : Hid (namB s = false) := by show _ = _; rw [hv2.out, allP_no (by rw [hc.out]; exact hp) hlt]; simp
              have a2 : (c == 95) = false := by rw [beq_eq_false_iff_ne]; omega
              have a3 : (c != 95) = true := by rw [bne_iff_ne]; omega
              have l3 : (c < 48) ∨ (57 < c ∧ c < 97 ∧ c ≠ 95) ∨ (122 < c) := by omega
              clear hlf l0 hp l1 l2
              rcases l3 with l1 | ⟨l1, l2, l3⟩ | l1
              all_goals
                go_wp2
                all_goals first
                  | (exfalso; omega)
                  | (exfalso; simp_all; done)
                  | (exfalso; simp_all; omega)
                  | (go_ret; exact ⟨by rw [hF.out]; rfl, pw_below_drewN (Below.refl _ _) _⟩)
      · obtain rfl : k = s.size := by omega
        have hF : Hid (namB s = true) := by show _ = _; rw [hv2.out, hfi.out z0, hok.out]; rfl
        go_wp2
        go_ret
        exact ⟨by rw [hF.out]; rfl, pw_below_drewN (Below.refl _ _) _⟩
  · have hF : Hid (namB s = false) := by
      show _ = _
      rw [hv.out]
      by_cases z0 : 0 < s.size
      · rw [show decide (s.size ≤ 16) = false from decide_eq_false (by omega)]; simp
      · rw [show decide (0 < s.size) = false from decide_eq_false (by omega)]; simp
    have z2 : s.size < 1 ∨ 16 < s.size := by omega
    clear z
    go_enter Try.func95, Try.ntmps95
    rcases z2 with z2 | z2
    all_goals
      go_wp2
      go_ret
      exact ⟨by rw [hF.out]; rfl, Below.refl _ _⟩
end Go.Proofs.Ytegkclehijdbiaa.V4

set_option linter.unusedSimpArgs false
set_option linter.unusedVariables false
namespace Go.Proofs.Ytegkclehijdbiaa.V5
open Go.RowKit Go.Proofs.YtegkclehijdbiaaW.PrintWords Go.Proofs.YtegkclehijdbiaaW.PrintLast Go.Proofs.Ytegkclehijdbiaa.V1 Go.Proofs.Ytegkclehijdbiaa.V2 Go.Proofs.Ytegkclehijdbiaa.V3 Go.Proofs.Ytegkclehijdbiaa.V4

def witB (n lo hi : Int) : Bool := decide (lo ≤ n) && decide (n ≤ hi)
set_option maxHeartbeats 400000 in
theorem within110 (n lo hi : Int) (w : World) : Calls Try.prog 110 #[.int .i64 n, .int .i64 lo, .int .i64 hi] w fun e w' => e = .returned (.bool (witB n lo hi)) ∧ w = w' := by
  have hv := Lib.hid (show witB n lo hi = (decide (lo ≤ n) && decide (n ≤ hi)) from rfl)
  generalize witB n lo hi = b at *
  by_cases l1 : lo ≤ n <;> by_cases l2 : n ≤ hi
  all_goals
    go_enter Try.func110, Try.ntmps110
    go_wp2
    all_goals
      go_ret
      exact ⟨by rw [hv.out]; simp [l1, l2], rfl⟩

/-- Two texts are the same, as the machine tells it. -/
def eqS (a b : ByteArray) : Bool := a.toList == b.toList
theorem eqS_comm (a b : ByteArray) : eqS a b = eqS b a := by unfold eqS; exact BEq.comm
set_option maxHeartbeats 400000 in
theorem same115 (a b : ByteArray) (i j : Int) (w : World) : Calls Try.prog 115 #[.agg #[.string a, .int .i64 i], .agg #[.string b, .int .i64 j]] w fun e w' => e = .returned (.bool (eqS a b)) ∧ Below w.heap.size w w' := by
  go_enter Try.func115, Try.ntmps115
  go_wp2
  go_ret
  exact ⟨rfl, by go_grown⟩

/-- No column ahead of it has its name; no two have the same. -/
def noneB (cs : List Cl) (i : Nat) : Nat → Bool
  | 0 => true
  | j + 1 => noneB cs i j && !eqS (el cs i).s (el cs j).s
def distB (cs : List Cl) : Nat → Bool
  | 0 => true
  | k + 1 => distB cs k && noneB cs k k
theorem noneB_no {cs : List Cl} {i j : Nat} (h : eqS (el cs i).s (el cs j).s = true) : ∀ {n : Nat}, j < n → noneB cs i n = false
  | n + 1, hk => by
    by_cases e : j = n
    · subst e; simp only [noneB, h, Bool.not_true, Bool.and_false]
    · simp only [noneB, noneB_no h (n := n) (by omega), Bool.false_and]
theorem distB_no {cs : List Cl} {k : Nat} (h : noneB cs k k = false) : ∀ {n : Nat}, k < n → distB cs n = false
  | n + 1, hk => by
    by_cases e : k = n
    · subst e; simp only [distB, h, Bool.and_false]
    · simp only [distB, distB_no h (n := n) (by omega), Bool.false_and]

set_option maxHeartbeats 2000000 in
theorem unlike114 (A : Option Addr) (n c : Nat) (cs : List Cl) (w : World) (hc : RdC w A n cs) (hnc : n ≤ c) (hcm : c ≤ 9223372036854775807) : Calls Try.prog 114 #[.slice A n c, .func (.func 115) #[] #[]] w fun e w' => e = .returned (.bool (distB cs n)) ∧ Below w.heap.size w w' := by
  have hn := hc.2.1
  go_enter Try.func114, Try.ntmps114
  go_wp2
  go_loopw [11] (fun i wr => ∃ k : Nat, i = .int .i64 k ∧ k ≤ n ∧ Hid (distB cs k = true) ∧ Below w.heap.size w wr) (fun i _ => n - (intOf i).toNat)
  case atStart => exact ⟨0, rfl, by omega, rfl, Below.refl _ _⟩
  case round =>
    obtain ⟨k, rfl, hk, hok, bel⟩ := hrel
    by_cases hlt : k < n
    · obtain ⟨g, o, rfl, ⟨c0, c1, hf⟩, q2⟩ := (rdC_below hc bel).at_ hlt
      have q0 : (0 : Int) ≤ (k : Int) := by omega
      have q1 : (k : Int) < (n : Int) := by omega
      have q3 : (k : Int) ≤ (c : Int) := by omega
      have q4 : (c : Int) ≤ 9223372036854775807 := by omega
      go_upto_region 4 with fail
      have P1 : Below wr.heap.size wr (wr.alloc (.cells #[.string (el cs k).s, .int .i64 (el cs k).k] 109)) := by go_grown
      have e0 : (wr.alloc (.cells #[.string (el cs k).s, .int .i64 (el cs k).k] 109)).cell? ⟨wr.heap.size, 0, none⟩ = some (.string (el cs k).s) := by go_simp
      have e1 : (wr.alloc (.cells #[.string (el cs k).s, .int .i64 (el cs k).k] 109)).cell? ⟨wr.heap.size, 1, none⟩ = some (.int .i64 (el cs k).k) := by go_simp
      have P2 := bel.trans (P1.mono bel.size)
      clear c0 c1 P1
      generalize wr.alloc (.cells #[.string (el cs k).s, .int .i64 (el cs k).k] 109) = X at *
      generalize wr.heap.size = gs at *
      go_wp2
      go_loopw [20] (fun i wy => ∃ j : Nat, i = .int .i64 j ∧ j ≤ k ∧ Hid (noneB cs k j = true) ∧ Below X.heap.size X wy) (fun i _ => k - (intOf i).toNat)
      case atStart => exact ⟨0, rfl, by omega, rfl, Below.refl _ _⟩
      case round =>
        obtain ⟨j, rfl, hj, hnj, bel2⟩ := hrel
        have f0 := pw_cell_below bel2 e0
        have f1 := pw_cell_below bel2 e1
        clear e0 e1
        have P3 := P2.trans (bel2.mono P2.size)
        by_cases hltj : j < k
        · obtain ⟨g', o', hgo, ⟨d0, d1, hf'⟩, q5⟩ := (rdC_below hc P3).at_ (show j < n by omega)
          cases hgo
          have q6 : (0 : Int) ≤ (j : Int) := by omega
          have q7 : (j : Int) < (k : Int) := by omega
          go_upto_region 7 with fail
          have P4 : Below wr.heap.size wr (wr.alloc (.cells #[.string (el cs j).s, .int .i64 (el cs j).k] 109)) := by go_grown
          have h0 : (wr.alloc (.cells #[.string (el cs j).s, .int .i64 (el cs j).k] 109)).cell? ⟨wr.heap.size, 0, none⟩ = some (.string (el cs j).s) := by go_simp
          have h1 : (wr.alloc (.cells #[.string (el cs j).s, .int .i64 (el cs j).k] 109)).cell? ⟨wr.heap.size, 1, none⟩ = some (.int .i64 (el cs j).k) := by go_simp
          have i0 := pw_cell_below P4 f0
          have i1 := pw_cell_below P4 f1
          have P5 := bel2.trans (P4.mono bel2.size)
          clear f0 f1 d0 d1 P4
          generalize wr.alloc (.cells #[.string (el cs j).s, .int .i64 (el cs j).k] 109) = Y at *
          generalize wr.heap.size = gy at *
          go_wp2_with fail
          (with_reducible refine (same115 (el cs k).s (el cs j).s (el cs k).k (el cs j).k _).mono ?_)
          rintro e Z ⟨rfl, hB⟩
          have P6 := P5.trans (hB.mono P5.size)
          clear h0 h1 i0 i1
          cases he : eqS (el cs k).s (el cs j).s with
          | false =>
            have hok2 : Hid (noneB cs k (j + 1) = true) := by show _ = _; simp only [noneB, hnj.out, he]; rfl
            go_wp2
            go_roundw
            case rel => exact ⟨j + 1, by go_num, by omega, hok2, P6⟩
            case measure => simp [intOf] <;> omega
          | true =>
            have hF : Hid (distB cs n = false) := distB_no (noneB_no he hltj) hlt
            go_wp2
            go_ret
            exact ⟨by rw [hF.out]; rfl, P2.trans (P6.mono P2.size)⟩
        · obtain rfl : j = k := by omega
          have hok2 : Hid (distB cs (j + 1) = true) := by show _ = _; simp only [distB, hok.out, hnj.out]; rfl
          clear f0 f1
          go_wp2
          go_roundw
          case rel => exact ⟨j + 1, by go_num, by omega, hok2, P3⟩
          case measure => simp [intOf] <;> omega
    · obtain rfl : k = n := by omega
      go_wp2
      go_ret
      exact ⟨by rw [hok.out]; rfl, bel⟩

/-- A column is right. -/
def colB (c : Cl) : Bool := namB c.s && witB c.k 1 3
def allC (cs : List Cl) : Nat → Bool
  | 0 => true
  | k + 1 => allC cs k && colB (el cs k)
theorem allC_no {cs : List Cl} {k : Nat} (h : colB (el cs k) = false) : ∀ {n : Nat}, k < n → allC cs n = false
  | n + 1, hk => by
    by_cases e : k = n
    · subst e; simp only [allC, h, Bool.and_false]
    · simp only [allC, allC_no h (n := n) (by omega), Bool.false_and]
def colsB (cs : List Cl) : Bool := allC cs cs.length && witB cs.length 1 8 && distB cs cs.length

set_option maxHeartbeats 2000000 in
/-- schema.columns. -/
theorem columns108 (A : Option Addr) (n c : Nat) (cs : List Cl) (w : World) (hc : RdC w A n cs) (hnc : n ≤ c) (hcm : c ≤ 9223372036854775807) : Calls Try.prog 108 #[.slice A n c] w fun e w' => e = .returned (.bool (colsB cs)) ∧ Below w.heap.size w w' := by
  have hn := hc.2.1
  have hv := Lib.hid (show colsB cs = (allC cs cs.length && witB cs.length 1 8 && distB cs cs.length) from rfl)
  rw [hc.1] at hv
  go_enter Try.func108, Try.ntmps108
  go_wp2
  go_loopw [7] (fun i wr => ∃ k : Nat, i = .int .i64 k ∧ k ≤ n ∧ Hid (allC cs k = true) ∧ Below w.heap.size w wr) (fun i _ => n - (intOf i).toNat)
  case atStart => exact ⟨0, rfl, by omega, rfl, Below.refl _ _⟩
  case round =>
    obtain ⟨k, rfl, hk, hok, bel⟩ := hrel
    by_cases hlt : k < n
    · obtain ⟨g, o, rfl, ⟨c0, c1, hf⟩, q2⟩ := (rdC_below hc bel).at_ hlt
      have hf := Lib.hid hf
      have q0 : (0 : Int) ≤ (k : Int) := by omega
      have q1 : (k : Int) < (n : Int) := by omega
      have hcb := Lib.hid (show colB (el cs k) = (namB (el cs k).s && witB (el cs k).k 1 3) from rfl)
      go_upto_region 4 with fail
      have P1 : Below wr.heap.size wr (wr.alloc (.cells #[.string (el cs k).s, .int .i64 (el cs k).k] 109)) := by go_grown
      have e0 : (wr.alloc (.cells #[.string (el cs k).s, .int .i64 (el cs k).k] 109)).cell? ⟨wr.heap.size, 0, none⟩ = some (.string (el cs k).s) := by go_simp
      have e1 : (wr.alloc (.cells #[.string (el cs k).s, .int .i64 (el cs k).k] 109)).cell? ⟨wr.heap.size, 1, none⟩ = some (.int .i64 (el cs k).k) := by go_simp
      have P2 := bel.trans (P1.mono bel.size)
      clear c0 c1 P1
      generalize wr.alloc (.cells #[.string (el cs k).s, .int .i64 (el cs k).k] 109) = X at *
      generalize wr.heap.size = gs at *
      go_wp2_with fail
      (with_reducible refine (named107 (el cs k).s _ hf.out.s1).mono ?_)
      rintro e Y ⟨rfl, hB⟩
      have P3 := P2.trans (hB.mono P2.size)
      have e1 := pw_cell_below hB e1
      clear e0
      cases hnm : namB (el cs k).s with
      | false =>
        have hF : Hid (colsB cs = false) := by show _ = _; rw [hv.out, allC_no (by rw [hcb.out, hnm]; rfl) hlt]; rfl
        go_wp2
        go_ret
        exact ⟨by rw [hF.out]; rfl, P3⟩
      | true =>
        go_wp2_with fail
        (with_reducible refine (within110 (el cs k).k 1 3 _).mono ?_)
        rintro e Z ⟨rfl, rfl⟩
        cases hw : witB (el cs k).k 1 3 with
        | false =>
          have hF : Hid (colsB cs = false) := by show _ = _; rw [hv.out, allC_no (by rw [hcb.out, hw]; simp) hlt]; rfl
          go_wp2
          go_ret
          exact ⟨by rw [hF.out]; rfl, P3⟩
        | true =>
          have hok2 : Hid (allC cs (k + 1) = true) := by show _ = _; simp only [allC, hok.out, hcb.out, hnm, hw]; rfl
          clear e1
          go_wp2
          go_roundw
          case rel => exact ⟨k + 1, by go_num, by omega, hok2, P3⟩
          case measure => simp [intOf] <;> omega
    · obtain rfl : k = n := by omega
      go_wp2_with fail
      (with_reducible refine (within110 k 1 8 _).mono ?_)
      rintro e Z ⟨rfl, rfl⟩
      cases hw : witB k 1 8 with
      | false =>
        have hF : Hid (colsB cs = false) := by show _ = _; rw [hv.out, hok.out, hw]; rfl
        go_wp2
        go_ret
        exact ⟨by rw [hF.out]; rfl, bel⟩
      | true =>
        go_wp2_with fail
        (with_reducible refine (unlike114 A k c cs _ (rdC_below hc bel) hnc hcm).mono ?_)
        rintro e Z ⟨rfl, hB⟩
        have hF : Hid (colsB cs = distB cs k) := by show _ = _; rw [hv.out, hok.out, hw]; rfl
        go_wp2
        go_ret
        exact ⟨by rw [hF.out]; rfl, bel.trans (hB.mono bel.size)⟩
end Go.Proofs.Ytegkclehijdbiaa.V5

set_option linter.unusedSimpArgs false
set_option linter.unusedVariables false
namespace Go.Proofs.Ytegkclehijdbiaa.V6
open Go.RowKit Go.Proofs.YtegkclehijdbiaaW.PrintWords Go.Proofs.YtegkclehijdbiaaW.PrintLast Go.Proofs.Ytegkclehijdbiaa.V1 Go.Proofs.Ytegkclehijdbiaa.V2 Go.Proofs.Ytegkclehijdbiaa.V3 Go.Proofs.Ytegkclehijdbiaa.V4 Go.Proofs.Ytegkclehijdbiaa.V5

/-- The one index that a stream has. -/
structure Ix (w : World) (gi gj : Nat) : Prop where
  c0 : w.cell? ⟨gi, 0, none⟩ = some (.slice (some ⟨gj, 0, none⟩) 1 1)
  c1 : w.cell? ⟨gi, 1, none⟩ = some (.bool true)
  c2 : w.cell? ⟨gj, 0, none⟩ = some (.int .i64 0)
theorem Ix.below {w w' : World} {gi gj : Nat} (h : Ix w gi gj) (hb : Below w.heap.size w w') : Ix w' gi gj := ⟨pw_cell_below hb h.c0, pw_cell_below hb h.c1, pw_cell_below hb h.c2⟩

set_option maxHeartbeats 1000000 in
theorem unlike120 (gj : Nat) (w : World) (h : w.cell? ⟨gj, 0, none⟩ = some (.int .i64 0)) : Calls Try.prog 120 #[.slice (some ⟨gj, 0, none⟩) 1 1, .func (.func 121) #[] #[]] w fun e w' => e = .returned (.bool true) ∧ Below w.heap.size w w' := by
  go_enter Try.func120, Try.ntmps120
  go_wp2
  go_loopw [11] (fun i wr => ∃ k : Nat, i = .int .i64 k ∧ k ≤ 1 ∧ ∃ q, wr = w.drewN q) (fun i _ => 1 - (intOf i).toNat)
  case atStart => exact ⟨0, rfl, by omega, 0, rfl⟩
  case round =>
    obtain ⟨k, rfl, hk, q, rfl⟩ := hrel
    by_cases hlt : k = 0
    · subst hlt
      go_wp2
      go_loopw [20] (fun i wr => i = .int .i64 0 ∧ ∃ q, wr = w.drewN q) (fun i _ => 0)
      case atStart => exact ⟨rfl, _, rfl⟩
      case round =>
        obtain ⟨rfl, q, rfl⟩ := hrel
        go_wp2
        go_roundw
        case rel => exact ⟨1, by go_num, by omega, _, rfl⟩
        case measure => simp [intOf] <;> omega
    · obtain rfl : k = 1 := by omega
      go_wp2
      go_ret
      exact ⟨rfl, pw_below_drewN (Below.refl _ _) _⟩

set_option maxHeartbeats 1000000 in
theorem unlike117 (gi gj : Nat) (w : World) (h : Ix w gi gj) : Calls Try.prog 117 #[.slice (some ⟨gi, 0, none⟩) 1 1, .func (.func 118) #[] #[]] w fun e w' => e = .returned (.bool true) ∧ Below w.heap.size w w' := by
  go_enter Try.func117, Try.ntmps117
  go_wp2
  go_loopw [11] (fun i wr => ∃ k : Nat, i = .int .i64 k ∧ k ≤ 1 ∧ Below w.heap.size w wr) (fun i _ => 1 - (intOf i).toNat)
  case atStart => exact ⟨0, rfl, by omega, Below.refl _ _⟩
  case round =>
    obtain ⟨k, rfl, hk, bel⟩ := hrel
    by_cases hlt : k = 0
    · subst hlt
      obtain ⟨c0, c1, c2⟩ := h.below bel
      go_upto_region 4 with fail
      have P2 : Below w.heap.size w (wr.alloc (.cells #[.slice (some ⟨gj, 0, none⟩) 1 1, .bool true] 117)) := bel.alloc bel.size _
      clear c0 c1 c2
      generalize wr.alloc (.cells #[.slice (some ⟨gj, 0, none⟩) 1 1, .bool true] 117) = X at *
      generalize wr.heap.size = gs at *
      go_wp2
      go_loopw [20] (fun i wr => i = .int .i64 0 ∧ ∃ q, wr = X.drewN q) (fun i _ => 0)
      case atStart => exact ⟨rfl, 0, rfl⟩
      case round =>
        obtain ⟨rfl, q, rfl⟩ := hrel
        go_wp2
        go_roundw
        case rel => exact ⟨1, by go_num, by omega, pw_below_drewN P2 _⟩
        case measure => simp [intOf] <;> omega
    · obtain rfl : k = 1 := by omega
      go_wp2
      go_ret
      exact ⟨rfl, bel⟩

set_option maxHeartbeats 1000000 in
theorem places116 (gj : Nat) (n : Nat) (w : World) (h : w.cell? ⟨gj, 0, none⟩ = some (.int .i64 0)) (hn : 1 ≤ n) (hn2 : n ≤ 9223372036854775807) : Calls Try.prog 116 #[.agg #[.slice (some ⟨gj, 0, none⟩) 1 1, .bool true], .int .i64 n] w fun e w' => e = .returned (.bool true) ∧ Below w.heap.size w w' := by
  have f0 : (w.alloc (.cells #[.slice (some ⟨gj, 0, none⟩) 1 1, .bool true] 117)).cell? ⟨w.heap.size, 0, none⟩ = some (.slice (some ⟨gj, 0, none⟩) 1 1) := by go_simp
  have P0 : Below w.heap.size w (w.alloc (.cells #[.slice (some ⟨gj, 0, none⟩) 1 1, .bool true] 117)) := by go_grown
  have h := pw_cell_below P0 h
  have q0 : (1 : Int) ≤ (n : Int) := by omega
  have hwt : witB 0 0 ((n : Int) - 1) = true := by simp [witB]; omega
  go_enter Try.func116, Try.ntmps116
  go_wp2
  generalize w.alloc (.cells #[.slice (some ⟨gj, 0, none⟩) 1 1, .bool true] 117) = W0 at *
  go_loopw [10] (fun i wr => ∃ k : Nat, i = .int .i64 k ∧ k ≤ 1 ∧ ∃ q, wr = W0.drewN q) (fun i _ => 1 - (intOf i).toNat)
  case atStart => exact ⟨0, rfl, by omega, 0, rfl⟩
  case round =>
    obtain ⟨k, rfl, hk, q, rfl⟩ := hrel
    by_cases hlt : k = 0
    · subst hlt
      go_wp2_with fail
      (with_reducible refine (within110 _ _ _ _).mono ?_)
      rintro e Z ⟨rfl, rfl⟩
      rw [hwt]
      go_wp2
      go_roundw
      case rel => exact ⟨1, by go_num, by omega, _, rfl⟩
      case measure => simp [intOf] <;> omega
    · obtain rfl : k = 1 := by omega
      go_wp2_with fail
      (with_reducible refine (unlike120 gj _ (pw_cell_below (pw_below_drewN (Below.refl _ _) _) h)).mono ?_)
      rintro e Z ⟨rfl, hB⟩
      go_wp2
      go_ret
      exact ⟨rfl, P0.trans (((pw_below_drewN (Below.refl _ _) _).trans hB).mono P0.size)⟩

set_option maxHeartbeats 1000000 in
theorem indexes109 (gi gj : Nat) (n : Nat) (w : World) (h : Ix w gi gj) (hn : 1 ≤ n) (hn2 : n ≤ 9223372036854775807) : Calls Try.prog 109 #[.slice (some ⟨gi, 0, none⟩) 1 1, .int .i64 n] w fun e w' => e = .returned (.bool true) ∧ Below w.heap.size w w' := by
  go_enter Try.func109, Try.ntmps109
  go_wp2
  go_loopw [9] (fun i wr => ∃ k : Nat, i = .int .i64 k ∧ k ≤ 1 ∧ Below w.heap.size w wr) (fun i _ => 1 - (intOf i).toNat)
  case atStart => exact ⟨0, rfl, by omega, Below.refl _ _⟩
  case round =>
    obtain ⟨k, rfl, hk, bel⟩ := hrel
    by_cases hlt : k = 0
    · subst hlt
      obtain ⟨c0, c1, c2⟩ := h.below bel
      go_upto_region 4 with fail
      have P1 : Below wr.heap.size wr (wr.alloc (.cells #[.slice (some ⟨gj, 0, none⟩) 1 1, .bool true] 117)) := by go_grown
      have e0 : (wr.alloc (.cells #[.slice (some ⟨gj, 0, none⟩) 1 1, .bool true] 117)).cell? ⟨wr.heap.size, 0, none⟩ = some (.slice (some ⟨gj, 0, none⟩) 1 1) := by go_simp
      have e1 : (wr.alloc (.cells #[.slice (some ⟨gj, 0, none⟩) 1 1, .bool true] 117)).cell? ⟨wr.heap.size, 1, none⟩ = some (.bool true) := by go_simp
      have e2 := pw_cell_below P1 c2
      have P2 := bel.trans (P1.mono bel.size)
      clear c0 c1 c2 P1
      generalize wr.alloc (.cells #[.slice (some ⟨gj, 0, none⟩) 1 1, .bool true] 117) = X at *
      generalize wr.heap.size = gs at *
      go_wp2_with fail
      (with_reducible refine (places116 gj n _ e2 hn hn2).mono ?_)
      rintro e Z ⟨rfl, hB⟩
      clear e0 e1 e2
      go_wp2
      go_roundw
      case rel => exact ⟨1, by go_num, by omega, P2.trans (hB.mono P2.size)⟩
      case measure => simp [intOf] <;> omega
    · obtain rfl : k = 1 := by omega
      have hI := h.below bel
      obtain ⟨c0, c1, c2⟩ := h.below bel
      go_wp2_with fail
      (with_reducible refine (within110 _ _ _ _).mono ?_)
      rintro e Z ⟨rfl, rfl⟩
      rw [show witB 1 1 4 = true by decide]
      go_wp2_with fail
      (with_reducible refine (unlike117 gi gj _ hI).mono ?_)
      rintro e Z ⟨rfl, hB⟩
      go_wp2
      go_ret
      exact ⟨rfl, bel.trans (hB.mono bel.size)⟩

/-- A stream is right. -/
def rightB (nm : ByteArray) (cs : List Cl) : Bool := namB nm && colsB cs
theorem cols_len {cs : List Cl} (h : colsB cs = true) : 1 ≤ cs.length ∧ cs.length ≤ 8 := by
  simp only [colsB, Bool.and_eq_true, witB, decide_eq_true_eq] at h
  omega
set_option maxHeartbeats 2000000 in
/-- schema.Right, of a stream's schema. -/
theorem right104 (nm : ByteArray) (A : Option Addr) (n c gi gj : Nat) (cs : List Cl) (w : World) (hnm : nm.size ≤ 9223372036854775807) (hc : RdC w A n cs) (hnc : n ≤ c) (hcm : c ≤ 9223372036854775807) (hI : Ix w gi gj) :
    Calls Try.prog 104 #[.agg #[.string nm, .slice A n c, .slice (some ⟨gi, 0, none⟩) 1 1, .int .i64 1, .int .i64 1, .int .i64 0]] w fun e w' => e = .returned (.bool (rightB nm cs)) ∧ Below w.heap.size w w' := by
  have hn := hc.2.1
  have hlc := Lib.hid hc.1
  have hv := Lib.hid (show rightB nm cs = (namB nm && colsB cs) from rfl)
  have f1 : (w.alloc (.cells #[.string nm, .slice A n c, .slice (some ⟨gi, 0, none⟩) 1 1, .int .i64 1, .int .i64 1, .int .i64 0] 107)).cell? ⟨w.heap.size, 1, none⟩ = some (.slice A n c) := by go_simp
  have f2 : (w.alloc (.cells #[.string nm, .slice A n c, .slice (some ⟨gi, 0, none⟩) 1 1, .int .i64 1, .int .i64 1, .int .i64 0] 107)).cell? ⟨w.heap.size, 2, none⟩ = some (.slice (some ⟨gi, 0, none⟩) 1 1) := by go_simp
  have f3 : (w.alloc (.cells #[.string nm, .slice A n c, .slice (some ⟨gi, 0, none⟩) 1 1, .int .i64 1, .int .i64 1, .int .i64 0] 107)).cell? ⟨w.heap.size, 3, none⟩ = some (.int .i64 1) := by go_simp
  have f4 : (w.alloc (.cells #[.string nm, .slice A n c, .slice (some ⟨gi, 0, none⟩) 1 1, .int .i64 1, .int .i64 1, .int .i64 0] 107)).cell? ⟨w.heap.size, 4, none⟩ = some (.int .i64 1) := by go_simp
  have f5 : (w.alloc (.cells #[.string nm, .slice A n c, .slice (some ⟨gi, 0, none⟩) 1 1, .int .i64 1, .int .i64 1, .int .i64 0] 107)).cell? ⟨w.heap.size, 5, none⟩ = some (.int .i64 0) := by go_simp
  have P0 : Below w.heap.size w (w.alloc (.cells #[.string nm, .slice A n c, .slice (some ⟨gi, 0, none⟩) 1 1, .int .i64 1, .int .i64 1, .int .i64 0] 107)) := by go_grown
  go_enter Try.func104, Try.ntmps104
  go_wp2_with fail
  generalize w.alloc (.cells #[.string nm, .slice A n c, .slice (some ⟨gi, 0, none⟩) 1 1, .int .i64 1, .int .i64 1, .int .i64 0] 107) = W0 at *
  (with_reducible refine (named107 nm _ hnm).mono ?_)
  rintro e W1 ⟨rfl, hB1⟩
  have g1 := pw_cell_below hB1 f1
  have g2 := pw_cell_below hB1 f2
  have P1 := P0.trans (hB1.mono P0.size)
  cases hnb : namB nm with
  | false =>
    have hF : Hid (rightB nm cs = false) := by show _ = _; rw [hv.out, hnb]; rfl
    go_wp2
    go_ret
    exact ⟨by rw [hF.out]; rfl, P1⟩
  | true =>
    go_wp2_with fail
    (with_reducible refine (columns108 A n c cs _ (rdC_below hc P1) hnc hcm).mono ?_)
    rintro e W2 ⟨rfl, hB2⟩
    have P2 := P1.trans (hB2.mono P1.size)
    have hB02 := hB1.trans (hB2.mono hB1.size)
    have g1 := pw_cell_below hB02 f1
    have g2 := pw_cell_below hB02 f2
    cases hcb : colsB cs with
    | false =>
      have hF : Hid (rightB nm cs = false) := by show _ = _; rw [hv.out, hcb]; simp
      go_wp2
      go_ret
      exact ⟨by rw [hF.out]; rfl, P2⟩
    | true =>
      have hF : Hid (rightB nm cs = true) := by show _ = _; rw [hv.out, hcb, hnb]; rfl
      obtain ⟨m1, m2⟩ := cols_len hcb
      rw [hlc.out] at m1 m2
      have q0 : (1 : Int) ≤ (n : Int) := by omega
      have q1 : (n : Int) ≤ 8 := by omega
      go_wp2_with fail
      (with_reducible refine (indexes109 gi gj n _ (hI.below P2) m1 hn).mono ?_)
      rintro e W3 ⟨rfl, hB3⟩
      have P3 := P2.trans (hB3.mono P2.size)
      have hB03 := hB02.trans (hB3.mono hB02.size)
      have g1 := pw_cell_below hB03 f1
      have g3 := pw_cell_below hB03 f3
      have g4 := pw_cell_below hB03 f4
      have g5 := pw_cell_below hB03 f5
      clear f1 f2 f3 f4 f5 g2
      go_wp2_with fail
      (with_reducible refine (within110 _ _ _ _).mono ?_)
      rintro e Z ⟨rfl, rfl⟩
      rw [show witB 1 1 1000 = true by decide]
      go_wp2_with fail
      (with_reducible refine (within110 _ _ _ _).mono ?_)
      rintro e Z ⟨rfl, rfl⟩
      rw [show witB 1 1 8 = true by decide]
      go_wp2_with fail
      (with_reducible refine (within110 _ _ _ _).mono ?_)
      rintro e Z ⟨rfl, rfl⟩
      rw [show witB 0 0 ((n : Int) - 1) = true by simp [witB]; omega]
      go_wp2
      go_ret
      exact ⟨by rw [hF.out]; rfl, P3⟩

theorem get_new (w : World) (o : Obj) (g : Nat) (h : g = w.heap.size) : (w.alloc o).heap[g]? = some o := by
  subst h; show (w.heap.push o)[w.heap.size]? = _; simp
theorem get_old (w : World) (o : Obj) (g : Nat) (h : g < w.heap.size) : (w.alloc o).heap[g]? = w.heap[g]? := by
  show (w.heap.push o)[g]? = _; rw [Array.getElem?_push]; simp [show g ≠ w.heap.size by omega]
set_option maxHeartbeats 1000000 in
/-- columns.right. -/
theorem right94 (nm : ByteArray) (A : Option Addr) (n c : Nat) (cs : List Cl) (w : World) (hnm : nm.size ≤ 9223372036854775807) (hc : RdC w A n cs) (hnc : n ≤ c) (hcm : c ≤ 9223372036854775807) :
    Calls Try.prog 94 #[.agg #[.string nm, .slice A n c]] w fun e w' => e = .returned (.bool (rightB nm cs)) ∧ Below w.heap.size w w' := by
  go_enter Try.func94, Try.ntmps94
  go_wp2_with fail
  have I0 : Ix (((w.alloc (.cells #[.string nm, .slice A n c] 111)).alloc (.cells #[.int .i64 0] 3)).alloc (.cells #[.slice (some ⟨w.heap.size + 1, 0, none⟩) 1 1, .bool true] 117)) (w.heap.size + 1 + 1) (w.heap.size + 1) := ⟨by go_simp, by go_simp, by go_simp⟩
  have P0 : Below w.heap.size w (((w.alloc (.cells #[.string nm, .slice A n c] 111)).alloc (.cells #[.int .i64 0] 3)).alloc (.cells #[.slice (some ⟨w.heap.size + 1, 0, none⟩) 1 1, .bool true] 117)) := by go_grown
  generalize ((w.alloc (.cells #[.string nm, .slice A n c] 111)).alloc (.cells #[.int .i64 0] 3)).alloc (.cells #[.slice (some ⟨w.heap.size + 1, 0, none⟩) 1 1, .bool true] 117) = W0 at *
  (with_reducible refine (right104 nm A n c _ _ cs _ hnm (rdC_below hc P0) hnc hcm I0).mono ?_)
  rintro e W1 ⟨rfl, hB1⟩
  go_wp2
  go_ret
  exact ⟨rfl, P0.trans (hB1.mono P0.size)⟩
end Go.Proofs.Ytegkclehijdbiaa.V6

set_option linter.unusedSimpArgs false
set_option linter.unusedVariables false
namespace Go.Proofs.Ytegkclehijdbiaa.V7
open Go.RowKit Go.Proofs.YtegkclehijdbiaaW.PrintWords Go.Proofs.YtegkclehijdbiaaW.PrintLast Go.Proofs.Ytegkclehijdbiaa.V1 Go.Proofs.Ytegkclehijdbiaa.V2 Go.Proofs.Ytegkclehijdbiaa.V3 Go.Proofs.Ytegkclehijdbiaa.V4 Go.Proofs.Ytegkclehijdbiaa.V5 Go.Proofs.Ytegkclehijdbiaa.V6

/-- The schema's cells. -/
structure Sc (w : World) (g : Nat) (nm : ByteArray) (A : Option Addr) (n c gi : Nat) : Prop where
  f0 : w.cell? ⟨g, 0, none⟩ = some (.string nm)
  f1 : w.cell? ⟨g, 1, none⟩ = some (.slice A n c)
  f2 : w.cell? ⟨g, 2, none⟩ = some (.slice (some ⟨gi, 0, none⟩) 1 1)
  f3 : w.cell? ⟨g, 3, none⟩ = some (.int .i64 1)
  f4 : w.cell? ⟨g, 4, none⟩ = some (.int .i64 1)
  f5 : w.cell? ⟨g, 5, none⟩ = some (.int .i64 0)
theorem Sc.below {w w' : World} {g : Nat} {nm : ByteArray} {A : Option Addr} {n c gi : Nat} (h : Sc w g nm A n c gi) (hb : Below w.heap.size w w') : Sc w' g nm A n c gi :=
  ⟨pw_cell_below hb h.f0, pw_cell_below hb h.f1, pw_cell_below hb h.f2, pw_cell_below hb h.f3, pw_cell_below hb h.f4, pw_cell_below hb h.f5⟩

set_option maxRecDepth 8000 in
set_option maxHeartbeats 4000000 in
/-- The reference's Right, of a stream's schema. -/
theorem right65 (nm : ByteArray) (A : Option Addr) (n c gi gj : Nat) (cs : List Cl) (w : World) (hnm : nm.size ≤ 9223372036854775807) (hc : RdC w A n cs) (hI : Ix w gi gj) :
    Calls Try.prog 65 #[.agg #[.string nm, .slice A n c, .slice (some ⟨gi, 0, none⟩) 1 1, .int .i64 1, .int .i64 1, .int .i64 0]] w fun e w' => e = .returned (.bool (rightB nm cs)) ∧ Below w.heap.size w w' := by
  have hn := hc.2.1
  have hlc := hc.1
  have hv := Lib.hid (show rightB nm cs = (namB nm && (allC cs cs.length && witB cs.length 1 8 && distB cs cs.length)) from rfl)
  rw [hlc] at hv
  clear hlc
  have S0 : Sc (w.alloc (.cells #[.string nm, .slice A n c, .slice (some ⟨gi, 0, none⟩) 1 1, .int .i64 1, .int .i64 1, .int .i64 0] 107)) w.heap.size nm A n c gi := ⟨by go_simp, by go_simp, by go_simp, by go_simp, by go_simp, by go_simp⟩
  have P0 : Below w.heap.size w (w.alloc (.cells #[.string nm, .slice A n c, .slice (some ⟨gi, 0, none⟩) 1 1, .int .i64 1, .int .i64 1, .int .i64 0] 107)) := by go_grown
  have hc := rdC_below hc P0
  have hI := hI.below P0
  go_enter Try.func65, Try.ntmps65
  go_wp2_with fail
  generalize w.alloc (.cells #[.string nm, .slice A n c, .slice (some ⟨gi, 0, none⟩) 1 1, .int .i64 1, .int .i64 1, .int .i64 0] 107) = W0 at *
  (with_reducible refine (named95 nm _ hnm).mono ?_)
  rintro e W1 ⟨rfl, hB1⟩
  obtain ⟨f0, f1, f2, f3, f4, f5⟩ := S0.below hB1
  obtain ⟨i0, i1, i2⟩ := hI.below hB1
  have S1 := S0.below hB1
  have I1 := hI.below hB1
  have c1 := rdC_below hc hB1
  have P1 := P0.trans (hB1.mono P0.size)
  clear P0 hB1 S0 hI hc
  cases hnb : namB nm with
  | false =>
    have hF : Hid (rightB nm cs = false) := by show _ = _; rw [hv.out, hnb]; rfl
    go_wp2
    go_ret
    exact ⟨by rw [hF.out]; rfl, P1⟩
  | true =>
    by_cases hw : 1 ≤ n ∧ n ≤ 8
    · obtain ⟨w1, w2⟩ := hw
      have hv2 : Hid (rightB nm cs = (allC cs n && distB cs n)) := by show _ = _; rw [hv.out, hnb, show witB n 1 8 = true by simp [witB]; omega]; simp
      have q0 : (1 : Int) ≤ (n : Int) := by omega
      have q1 : (n : Int) ≤ 8 := by omega
      have b1 : decide ((n : Int) < 1) = false := decide_eq_false (by omega)
      have b2 : decide (8 < (n : Int)) = false := decide_eq_false (by omega)
      go_wp2
      clear f0 f1 f2 f3 f4 f5 i0 i1 i2 b1 b2 hv
      go_loopw [4] (fun i wr => ∃ k : Nat, i = .int .i64 k ∧ k ≤ n ∧ Hid (allC cs k = true) ∧ Hid (distB cs k = true) ∧ Below W1.heap.size W1 wr) (fun i _ => n - (intOf i).toNat)
      case atStart => exact ⟨0, rfl, by omega, rfl, rfl, Below.refl _ _⟩
      case round =>
        obtain ⟨k, rfl, hk, hok, hds, bel⟩ := hrel
        have f1 := (S1.below bel).f1
        by_cases hlt : k < n
        · obtain ⟨g, o, rfl, ⟨d0, d1, hf⟩, q2⟩ := (rdC_below c1 bel).at_ hlt
          have hf := Lib.hid hf
          have q3 : (0 : Int) ≤ (k : Int) := by omega
          have q4 : (k : Int) < (n : Int) := by omega
          have hcb := Lib.hid (show colB (el cs k) = (namB (el cs k).s && witB (el cs k).k 1 3) from rfl)
          go_wp2_with fail
          (with_reducible refine (named95 (el cs k).s _ hf.out.s1).mono ?_)
          rintro e Y ⟨rfl, hB⟩
          have P2 := bel.trans (hB.mono bel.size)
          have f1 := (S1.below P2).f1
          have d1 := pw_cell_below hB d1
          clear d0
          cases hnm : namB (el cs k).s with
          | false =>
            have hF : Hid (rightB nm cs = false) := by show _ = _; rw [hv2.out, allC_no (by rw [hcb.out, hnm]; rfl) hlt]; rfl
            go_wp2
            go_ret
            exact ⟨by rw [hF.out]; rfl, P1.trans (P2.mono P1.size)⟩
          | true =>
            by_cases hkk : 1 ≤ (el cs k).k ∧ (el cs k).k ≤ 3
            · obtain ⟨k1, k2⟩ := hkk
              have hok2 : Hid (allC cs (k + 1) = true) := by show _ = _; simp only [allC, hok.out, hcb.out, hnm, show witB (el cs k).k 1 3 = true by simp [witB]; omega]; rfl
              have b1 : decide ((el cs k).k < 1) = false := decide_eq_false (by omega)
              have b2 : decide (3 < (el cs k).k) = false := decide_eq_false (by omega)
              go_wp2
              clear d1 b1 b2
              go_loopw [5] (fun i wy => ∃ j : Nat, i = .int .i64 j ∧ j ≤ k ∧ Hid (noneB cs k j = true) ∧ ∃ q, wy = Y.drewN q) (fun i _ => k - (intOf i).toNat)
              case atStart => exact ⟨0, rfl, by omega, rfl, 0, rfl⟩
              case round =>
                obtain ⟨j, rfl, hj, hnj, q, rfl⟩ := hrel
                by_cases hltj : j < k
                · obtain ⟨g', o', hgo, ⟨e0, e1, _⟩, q5⟩ := (rdC_below c1 P2).at_ (show j < n by omega)
                  cases hgo
                  obtain ⟨g'', o'', hgo, ⟨e2, e3, _⟩, q6⟩ := (rdC_below c1 P2).at_ hlt
                  cases hgo
                  have q7 : (0 : Int) ≤ (j : Int) := by omega
                  have q8 : (j : Int) < (k : Int) := by omega
                  go_wp2
                  go_quiet (fail)
                  have hcm := Lib.hid (show ((el cs j).s.toList == (el cs k).s.toList) = eqS (el cs k).s (el cs j).s from eqS_comm _ _)
                  rw [hcm.out]
                  cases he : eqS (el cs k).s (el cs j).s with
                  | false =>
                    have hok3 : Hid (noneB cs k (j + 1) = true) := by show _ = _; simp only [noneB, hnj.out, he]; rfl
                    go_wp2
                    go_roundw
                    case rel => exact ⟨j + 1, by go_num, by omega, hok3, _, rfl⟩
                    case measure => simp [intOf] <;> omega
                  | true =>
                    have hF : Hid (rightB nm cs = false) := by show _ = _; rw [hv2.out, distB_no (noneB_no he hltj) hlt]; simp
                    go_wp2
                    go_ret
                    exact ⟨by rw [hF.out]; rfl, P1.trans ((pw_below_drewN (pw_below_drewN P2 _) _).mono P1.size)⟩
                · obtain rfl : j = k := by omega
                  have hok3 : Hid (distB cs (j + 1) = true) := by show _ = _; simp only [distB, hds.out, hnj.out]; rfl
                  go_wp2
                  go_roundw
                  case rel => exact ⟨j + 1, by go_num, by omega, hok2, hok3, pw_below_drewN P2 _⟩
                  case measure => simp [intOf] <;> omega
            · have hF : Hid (rightB nm cs = false) := by show _ = _; rw [hv2.out, allC_no (by rw [hcb.out, show witB (el cs k).k 1 3 = false by simp [witB]; omega]; simp) hlt]; rfl
              have k1 : (el cs k).k < 1 ∨ 3 < (el cs k).k := by omega
              rcases k1 with k1 | k1
              all_goals
                go_wp2
                go_ret
                exact ⟨by rw [hF.out]; rfl, P1.trans (P2.mono P1.size)⟩
        · obtain rfl : k = n := by omega
          have hF : Hid (rightB nm cs = true) := by show _ = _; rw [hv2.out, hok.out, hds.out]; rfl
          have f2 := (S1.below bel).f2
          obtain ⟨i0, i1, i2⟩ := I1.below bel
          go_wp2
          go_loopw [6] (fun i wy => ∃ j : Nat, i = .int .i64 j ∧ j ≤ 1 ∧ ∃ q, wy = wr.drewN q) (fun i _ => 1 - (intOf i).toNat)
          case atStart => exact ⟨0, rfl, by omega, 0, rfl⟩
          case round =>
            obtain ⟨j, rfl, hj, q, rfl⟩ := hrel
            by_cases hj0 : j = 0
            · subst hj0
              go_wp2
              go_loopw [8] (fun i wz => ∃ x : Nat, i = .int .i64 x ∧ x ≤ 1 ∧ ∃ q, wz = wr.drewN q) (fun i _ => 1 - (intOf i).toNat)
              case atStart => exact ⟨0, rfl, by omega, _, rfl⟩
              case round =>
                obtain ⟨x, rfl, hx, q, rfl⟩ := hrel
                by_cases hx0 : x = 0
                · subst hx0
                  have b3 : decide ((k : Int) ≤ 0) = false := decide_eq_false (by omega)
                  go_wp2
                  clear b3
                  go_loopw [9] (fun i wz => i = .int .i64 0 ∧ ∃ q, wz = wr.drewN q) (fun i _ => 0)
                  case atStart => exact ⟨rfl, _, rfl⟩
                  case round =>
                    obtain ⟨rfl, q, rfl⟩ := hrel
                    go_wp2
                    go_roundw
                    case rel => exact ⟨1, by go_num, by omega, _, rfl⟩
                    case measure => simp [intOf] <;> omega
                · obtain rfl : x = 1 := by omega
                  go_wp2
                  go_loopw [10] (fun i wz => i = .int .i64 0 ∧ ∃ q, wz = wr.drewN q) (fun i _ => 0)
                  case atStart => exact ⟨rfl, _, rfl⟩
                  case round =>
                    obtain ⟨rfl, q, rfl⟩ := hrel
                    go_wp2
                    go_roundw
                    case rel => exact ⟨1, by go_num, by omega, _, rfl⟩
                    case measure => simp [intOf] <;> omega
            · obtain rfl : j = 1 := by omega
              go_wp2
              go_ret
              exact ⟨by rw [hF.out]; rfl, P1.trans ((pw_below_drewN bel _).mono P1.size)⟩
    · have hF : Hid (rightB nm cs = false) := by show _ = _; rw [hv.out, show witB n 1 8 = false by simp [witB]; omega]; simp
      have w1 : n < 1 ∨ 8 < n := by omega
      rcases w1 with w1 | w1
      all_goals
        go_wp2
        go_ret
        exact ⟨by rw [hF.out]; rfl, P1⟩

set_option maxHeartbeats 1000000 in
/-- The law's right. -/
theorem right15 (nm : ByteArray) (A : Option Addr) (n c : Nat) (cs : List Cl) (w : World) (hnm : nm.size ≤ 9223372036854775807) (hc : RdC w A n cs) :
    Calls Try.prog 15 #[.agg #[.string nm, .slice A n c]] w fun e w' => e = .returned (.bool (rightB nm cs)) ∧ Below w.heap.size w w' := by
  go_enter Try.func15, Try.ntmps15
  go_wp2_with fail
  have I0 : Ix (((w.alloc (.cells #[.string nm, .slice A n c] 24)).alloc (.cells #[.int .i64 0] 3)).alloc (.cells #[.slice (some ⟨w.heap.size + 1, 0, none⟩) 1 1, .bool true] 117)) (w.heap.size + 1 + 1) (w.heap.size + 1) := ⟨by go_simp, by go_simp, by go_simp⟩
  have P0 : Below w.heap.size w (((w.alloc (.cells #[.string nm, .slice A n c] 24)).alloc (.cells #[.int .i64 0] 3)).alloc (.cells #[.slice (some ⟨w.heap.size + 1, 0, none⟩) 1 1, .bool true] 117)) := by go_grown
  generalize ((w.alloc (.cells #[.string nm, .slice A n c] 24)).alloc (.cells #[.int .i64 0] 3)).alloc (.cells #[.slice (some ⟨w.heap.size + 1, 0, none⟩) 1 1, .bool true] 117) = W0 at *
  (with_reducible refine (right65 nm A n c _ _ cs _ hnm (rdC_below hc P0) I0).mono ?_)
  rintro e W1 ⟨rfl, hB1⟩
  go_wp2
  go_ret
  exact ⟨rfl, P0.trans (hB1.mono P0.size)⟩
end Go.Proofs.Ytegkclehijdbiaa.V7

set_option linter.unusedSimpArgs false
set_option linter.unusedVariables false
namespace Go.Proofs.Ytegkclehijdbiaa.V8
open Go.RowKit Go.Proofs.YtegkclehijdbiaaW.PrintWords Go.Proofs.YtegkclehijdbiaaW.PrintLast Go.Proofs.Ytegkclehijdbiaa.V1 Go.Proofs.Ytegkclehijdbiaa.V2 Go.Proofs.Ytegkclehijdbiaa.V3 Go.Proofs.Ytegkclehijdbiaa.V4 Go.Proofs.Ytegkclehijdbiaa.V5 Go.Proofs.Ytegkclehijdbiaa.V6

/-- The cells of a list of structs. -/
theorem flat_len {α : Type} (f : α → List Value) (sz : Nat) (hf : ∀ a, (f a).length = sz) : ∀ l : List α, (l.flatMap f).length = l.length * sz
  | [] => by simp
  | a :: l => by rw [List.flatMap_cons, List.length_append, hf, flat_len f sz hf l, List.length_cons, Nat.add_mul, Nat.one_mul, Nat.add_comm]
theorem flat_get {α : Type} [Inhabited α] (f : α → List Value) (sz : Nat) (hf : ∀ a, (f a).length = sz) : ∀ (l : List α) (i j : Nat), i < l.length → j < sz → (l.flatMap f)[i * sz + j]? = (f (el l i))[j]?
  | a :: l, 0, j, _, hj => by
    rw [List.flatMap_cons, Nat.zero_mul, Nat.zero_add, List.getElem?_append_left (by rw [hf]; exact hj)]; rfl
  | a :: l, i + 1, j, hi, hj => by
    rw [List.flatMap_cons, List.getElem?_append_right (by rw [hf, Nat.add_mul]; omega), hf, show (i + 1) * sz + j - sz = i * sz + j by rw [Nat.add_mul]; omega, flat_get f sz hf l i j (by simpa using hi) hj]; rfl
theorem flat_all {α : Type} [Inhabited α] (f : α → List Value) (sz : Nat) (hs : 0 < sz) (hf : ∀ a, (f a).length = sz) (l : List α) (P : Nat → Value → Prop) (h : ∀ i j u, i < l.length → j < sz → (f (el l i))[j]? = some u → P (i * sz + j) u) : ∀ j u, (l.flatMap f)[j]? = some u → P j u := by
  intro j u hu
  have hj : j < (l.flatMap f).length := by
    rcases Nat.lt_or_ge j (l.flatMap f).length with h1 | h1
    · exact h1
    · rw [List.getElem?_eq_none h1] at hu; cases hu
  rw [flat_len f sz hf] at hj
  have h1 : j / sz < l.length := Nat.div_lt_of_lt_mul (by rw [Nat.mul_comm]; exact hj)
  have h2 : j % sz < sz := Nat.mod_lt _ hs
  have e : j / sz * sz + j % sz = j := by rw [Nat.mul_comm]; exact Nat.div_add_mod j sz
  have := h (j / sz) (j % sz) u h1 h2 (by rw [← flat_get f sz hf l _ _ h1 h2, e]; exact hu)
  rwa [e] at this
def cC (c : Cl) : List Value := [.string c.s, .int .i64 c.k]
theorem cC_len (c : Cl) : (cC c).length = 2 := rfl
theorem rdC_news {w : World} {g o n : Nat} {cs : List Cl} (h : RdC w (some ⟨g, o, none⟩) n cs) : ∀ j u, (cs.flatMap cC)[j]? = some u → w.cell? ((⟨g, o, none⟩ : Addr).add j) = some u := by
  refine flat_all cC 2 (by omega) cC_len cs _ fun i j u hi hj hu => ?_
  rw [h.1] at hi
  obtain ⟨g', o', e, ⟨c0, c1, _⟩, _⟩ := h.at_ hi
  injection e with e
  injection e with e1 e2
  subst e1 e2
  rw [V1.add_at, ← Nat.add_assoc]
  rcases (show j = 0 ∨ j = 1 by omega) with rfl | rfl
  · simp [cC] at hu; rw [← hu]; exact c0
  · simp [cC] at hu; rw [← hu]; exact c1
theorem rdC_fit {w : World} {A : Option Addr} {n : Nat} {cs : List Cl} (h : RdC w A n cs) (i : Nat) (hi : i < n) : (el cs i).Fit := by
  obtain ⟨g', o', e, ⟨c0, c1, hf⟩, _⟩ := h.at_ hi
  exact hf
theorem rdC_own {w : World} {base n cap g : Nat} {cs : List Cl} (h : w.ownsRow base 109 2 (.slice (some ⟨g, 0, none⟩) n cap) n (cs.flatMap cC)) (hl : cs.length = n) (hn : n ≤ 9223372036854775807) (hf : ∀ i, i < n → (el cs i).Fit) : RdC w (some ⟨g, 0, none⟩) n cs := by
  refine ⟨hl, hn, fun _ => ⟨g, 0, rfl, fun i hi => ?_⟩⟩
  have hc := fun j u hu => h.cells (g := g) rfl j u hu
  have h0 := hc (i * 2 + 0) (.string (el cs i).s) (by rw [flat_get cC 2 cC_len cs i 0 (by omega) (by omega)]; rfl)
  have h1 := hc (i * 2 + 1) (.int .i64 (el cs i).k) (by rw [flat_get cC 2 cC_len cs i 1 (by omega) (by omega)]; rfl)
  rw [add_plain] at h0 h1
  rw [Nat.zero_add]
  exact ⟨h0, h1, hf i hi⟩

theorem info109 : (Try.prog.info? 109).map (fun i => (i.zero, i.size, i.bytes)) = some (some (.agg #[.string ByteArray.empty, .int .i64 0]), 2, 24) := by kernel_rfl
/-- A copy of columns. -/
def ClR (w : World) (n : Nat) (cs : List Cl) (e : Ending) (w' : World) : Prop := ∃ B d, e = .returned (.slice B n d) ∧ RdC w' B n cs ∧ n ≤ d ∧ d ≤ 9223372036854775807 ∧ Below w.heap.size w w'
set_option maxRecDepth 20000 in
set_option maxHeartbeats 1000000 in
theorem clone93 (A : Option Addr) (n c : Nat) (cs : List Cl) (w : World) (hc : RdC w A n cs) (hn : n ≤ 1000000) : Calls Try.prog 93 #[.slice A n c] w (ClR w n cs) := by
  cases A with
  | none =>
    have h0 : n = 0 := by
      rcases Nat.eq_zero_or_pos n with h | h
      · exact h
      · obtain ⟨g, o, e, _⟩ := hc.2.2 h; cases e
    subst h0
    have hE := Lib.run_eql_slice_nil (P := Try.prog) w 22 109 none 0 c 0 0 (by kernel_rfl)
    go_enter Try.func93, Try.ntmps93
    go_wp2
    go_ret
    exact ⟨none, 0, rfl, hc, by omega, by omega, Below.refl _ _⟩
  | some a =>
    obtain ⟨i0, hi, hzz⟩ := Option.map_eq_some_iff.1 info109
    simp only [Prod.mk.injEq] at hzz
    obtain ⟨hz0, hz1, hz2⟩ := hzz
    have hE := Lib.run_eql_slice_nil (P := Try.prog) w 22 109 (some a) n c 0 0 (by kernel_rfl)
    have P0 : Below w.heap.size w (w.alloc (.cells #[] 109)) := by go_grown
    have hcX := rdC_below hc P0
    have hown : (w.alloc (.cells #[] 109)).ownsRow w.heap.size 109 2 (.slice (some ⟨w.heap.size, 0, none⟩) 0 0) 0 [] :=
      ⟨by simp, .inr ⟨w.heap.size, 0, #[], rfl, Nat.le_refl _, get_new _ _ _ rfl, Nat.le_refl _, by simp [maxLen], by simp, by simp⟩⟩
    have hlen := Lib.hid hc.1
    have hnews : ∀ j u, (cs.flatMap cC)[j]? = some u → (w.alloc (.cells #[] 109)).cell? (a.add j) = some u := by
      rcases Nat.eq_zero_or_pos n with h | h
      · have e : cs = [] := List.eq_nil_of_length_eq_zero (by rw [hc.1]; exact h)
        subst e; intro j u hu; simp at hu
      · obtain ⟨g, o, e, _⟩ := hcX.2.2 h
        injection e with e; subst e
        exact rdC_news hcX
    have hnews := Lib.hid hnews
    have hfit := Lib.hid (fun i hi => rdC_fit hc i hi)
    go_enter Try.func93, Try.ntmps93
    go_wp2_with (at_builtin; refine wpList_append_own_at (w.alloc (.cells #[] 109)) rfl (.tmp 5) (.tmp 6) 22 rfl w.heap.size 109 i0 (.agg #[.string ByteArray.empty, .int .i64 0]) 2 24 Try.underlying22 hi hz0 hz1 hz2 rfl (by omega) (.slice (some ⟨w.heap.size, 0, none⟩) 0 0) 0 [] rfl hown a n c (cs.flatMap cC) rfl (by rw [flat_len cC 2 cC_len, hlen.out]) hnews.out (by intro u hu; simp only [List.mem_flatMap, cC, List.mem_cons, List.not_mem_nil, or_false] at hu; obtain ⟨x, _, rfl | rfl⟩ := hu <;> rfl) (by simp only [maxLen]; omega) (by omega) (by simp) ?_; intro v1 w1 hown1 hg1 _ _)
    go_ret
    have hB := P0.grown hg1 (by simp) (own_base hown)
    rw [Nat.zero_add, List.nil_append] at hown1
    rcases hown1.2 with ⟨rfl, h0⟩ | ⟨g', cap, cur, rfl, _, _, h1, h2, _⟩
    · subst h0
      exact ⟨none, 0, rfl, ⟨hlen.out, by omega, fun h => absurd h (by omega)⟩, by omega, by omega, hB⟩
    · exact ⟨_, cap, rfl, rdC_own hown1 hlen.out (by omega) hfit.out, h1, h2, hB⟩
end Go.Proofs.Ytegkclehijdbiaa.V8

set_option linter.unusedSimpArgs false
set_option linter.unusedVariables false
namespace Go.Proofs.Ytegkclehijdbiaa.V9
open Go.RowKit Go.Proofs.YtegkclehijdbiaaW.PrintWords Go.Proofs.YtegkclehijdbiaaW.PrintLast Go.Proofs.Ytegkclehijdbiaa.V1 Go.Proofs.Ytegkclehijdbiaa.V2 Go.Proofs.Ytegkclehijdbiaa.V3 Go.Proofs.Ytegkclehijdbiaa.V4 Go.Proofs.Ytegkclehijdbiaa.V5 Go.Proofs.Ytegkclehijdbiaa.V6 Go.Proofs.Ytegkclehijdbiaa.V8

def FO (V w' : World) (g : Nat) (B : Option Addr) (n d : Nat) (cs : List Cl) : Prop := V.heap.size ≤ g ∧ w'.heap[g]? = some (.cells #[.string ⟨#[]⟩, .slice none 0 0] 111 (0, 0)) ∧ RdC w' B n cs ∧ n ≤ d ∧ d ≤ 9223372036854775807 ∧ Below V.heap.size V w'
theorem rdC_set {w : World} {g n : Nat} {B : Option Addr} {cs : List Cl} {a : ByteArray} (h : RdC w B n cs) (hg : w.heap[g]? = some (.cells #[.string a, .slice none 0 0] 111 (0, 0))) (u v : Value) : RdC ((w.setCell ⟨g, 0, none⟩ u).setCell ⟨g, 1, none⟩ v) B n cs := by
  refine ⟨h.1, h.2.1, fun hn => ?_⟩
  obtain ⟨g', o, e, hc⟩ := h.2.2 hn
  refine ⟨g', o, e, fun i hi => ?_⟩
  obtain ⟨c0, c1, hf⟩ := hc i hi
  have hne : g ≠ g' := by
    rintro rfl
    rw [blk_cell hg] at c1
    rcases Nat.eq_zero_or_pos (o + i * 2) with h0 | h0
    · rw [h0] at c1; simp at c1
    · have h1 := (Array.getElem?_eq_some_iff.1 c1).1
      simp at h1; omega
  exact ⟨(World.cell?_setCell_far _ _ _ _ hne).trans ((World.cell?_setCell_far _ _ _ _ hne).trans c0), (World.cell?_setCell_far _ _ _ _ hne).trans ((World.cell?_setCell_far _ _ _ _ hne).trans c1), hf⟩
theorem results_row_tmp {P : Program} {fn : Func} {p u : Tmp} {ty : TypeId} (h : fn.results = #[.cell p ty, .tmp u]) (tmps : Array Value) (w : World) (g : Nat) (t : TypeId) (cs : Array Value) (fr : Nat × Nat) (d : TypeDesc)
    (hp : tmps.getD p undef = .pointer (some ⟨g, 0, none⟩)) (hg : w.heap[g]? = some (.cells cs t fr))
    (hu : P.underlying ty = some d) (hd : (match d with | .struct _ | .array _ _ => true | _ => false) = true) (hi : (P.info? ty).map (·.size) = some cs.size) :
    (results fn tmps).run P w = .ok (.tuple #[.agg cs, tmps.getD u undef]) w := by
  have hp' : tmps[p]?.getD undef = .pointer (some ⟨g, 0, none⟩) := by simpa using hp
  simp [results, h, hp', asAddr, run_loadVar_row w g t ty cs fr d hg hu hd hi]
theorem bodyPost_num {P : Program} {fn : Func} {R : Ending → World → Prop} {a : Act} {w : World} (hd : a.defers = []) (h : ∃ v, (results fn a.tmps).run P w = .ok v w ∧ R (.returned v) w) : bodyPost P fn R .ret a w := ⟨hd, h⟩
/-- What open answers. -/
def OpR (w : World) (nm : ByteArray) (n : Nat) (cs : List Cl) (e : Ending) (w' : World) : Prop :=
  (rightB nm cs = false ∧ e = .returned (.tuple #[.agg #[.string ⟨#[]⟩, .slice none 0 0], .int .i64 1]) ∧ Below w.heap.size w w') ∨
  (rightB nm cs = true ∧ ∃ B d, e = .returned (.tuple #[.agg #[.string nm, .slice B n d], .int .i64 0]) ∧ RdC w' B n cs ∧ n ≤ d ∧ d ≤ 9223372036854775807 ∧ Below w.heap.size w w')

set_option maxRecDepth 8000 in
set_option maxHeartbeats 2000000 in
theorem open64 (nm : ByteArray) (A : Option Addr) (n c : Nat) (cs : List Cl) (w : World) (hnm : nm.size ≤ 9223372036854775807) (hc : RdC w A n cs) (hn : n ≤ 1000000) : Calls Try.prog 64 #[.agg #[.string nm, .slice A n c]] w (OpR w nm n cs) := by
  go_enter Try.func64, Try.ntmps64
  go_upto_region 1 with fail
  have f0 : ((w.alloc (.cells #[.string nm, .slice A n c] 24)).alloc (.cells #[.string ⟨#[]⟩, .slice none 0 0] 111)).cell? ⟨w.heap.size, 0, none⟩ = some (.string nm) := by go_simp
  have f1 : ((w.alloc (.cells #[.string nm, .slice A n c] 24)).alloc (.cells #[.string ⟨#[]⟩, .slice none 0 0] 111)).cell? ⟨w.heap.size, 1, none⟩ = some (.slice A n c) := by go_simp
  have e2 : Hid (((w.alloc (.cells #[.string nm, .slice A n c] 24)).alloc (.cells #[.string ⟨#[]⟩, .slice none 0 0] 111)).heap[w.heap.size + 1]? = some (.cells #[.string ⟨#[]⟩, .slice none 0 0] 111 (0, 0))) := get_new _ _ _ (by simp)
  have P0 : Below w.heap.size w ((w.alloc (.cells #[.string nm, .slice A n c] 24)).alloc (.cells #[.string ⟨#[]⟩, .slice none 0 0] 111)) := by go_grown
  have hc := rdC_below hc P0
  generalize (w.alloc (.cells #[.string nm, .slice A n c] 24)).alloc (.cells #[.string ⟨#[]⟩, .slice none 0 0] 111) = V at *
  refine start_ (n := 9) (S := fun w' => w'.cell? ⟨w.heap.size, 0, none⟩ = some (.string nm) ∧ w'.cell? ⟨w.heap.size, 1, none⟩ = some (.slice A n c)) (ds := [8]) #[false, false, false, false, false, false, false, false, false] (by kernel_rfl) rfl rfl ⟨f0, f1⟩ (fun hHeld => ?_)
  have PP : Below V.heap.size V V.drew := (Below.refl _ _).drew
  have HC := rdC_below hc PP
  generalize V.drew = VD at hHeld PP HC ⊢
  refine pure_ (i := 0) (N := some 5) (v := ?_) (a' := ?_) #[true, false, false, false, false, false, false, false, false] rfl rfl (by kernel_rfl) (fun _ _ _ h => h) (Or.inl ⟨by rfl, ?_⟩) ?_ ?_
  rotate_left
  · intro w'
    go_simp
    with_reducible rfl
  rotate_left
  · simp only [Act.put, List.setIfInBounds_toArray, List.set_cons_zero, List.set_cons_succ, i64_w, i32_w]
    rfl
  refine pure_ (i := 2) (N := some 7) (v := ?_) (a' := ?_) #[true, false, true, false, false, false, false, false, false] rfl rfl (by kernel_rfl) (fun _ _ _ h => h) (Or.inl ⟨by rfl, ?_⟩) ?_ ?_
  rotate_left
  · intro w'
    go_simp
    with_reducible rfl
  rotate_left
  · simp only [Act.put, List.setIfInBounds_toArray, List.set_cons_zero, List.set_cons_succ, i64_w, i32_w]
    rfl
  refine take_ (i := 1) (N := some 6) (v := ?_) (a' := ?_) #[true, true, true, false, false, false, false, false, false] rfl rfl (by kernel_rfl) (fun _ _ _ h => h) (Or.inl ⟨by rfl, ?_⟩) hHeld ?_ ?_
  rotate_left
  · rintro w' ⟨s0, s1⟩
    go_simp
    with_reducible rfl
  rotate_left
  · simp only [Act.put, List.setIfInBounds_toArray, List.set_cons_zero, List.set_cons_succ, i64_w, i32_w]
    rfl
  refine take_ (i := 3) (N := some 8) (v := ?_) (a' := ?_) #[true, true, true, true, false, false, false, false, false] rfl rfl (by kernel_rfl) (fun _ _ _ h => h) (Or.inl ⟨by rfl, ?_⟩) hHeld ?_ ?_
  rotate_left
  · rintro w' ⟨s0, s1⟩
    go_simp
    with_reducible rfl
  rotate_left
  · simp only [Act.put, List.setIfInBounds_toArray, List.set_cons_zero, List.set_cons_succ, i64_w, i32_w]
    rfl
  refine join_ (σ := Option Addr × Nat × Nat) 1 #[true, true, true, true, true, true, true, true, false] (fun s => [(9, .slice s.1 n s.2.1), (10, .agg #[.string nm, .slice s.1 n s.2.1]), (11, .agg #[.string nm, .slice s.1 n s.2.1]), (4, .pointer (some ⟨s.2.2, 0, none⟩))]) (fun s w' => FO V w' s.2.2 s.1 n s.2.1 cs) ?_ ?_
  rotate_left
  · intro hCont
    refine two_ (i := 4) (j := 7) (Ni := some 9) (Nj := some 4) #[true, true, true, true, true, false, false, false, false] #[true, true, true, true, false, false, false, true, false] rfl rfl rfl rfl (by kernel_rfl) (by decide) (by decide) (fun K hK => ?_) (fun K hK => ?_)
    · skip
      refine goes_ Try.func93 (by kernel_rfl) rfl #[.slice A n c] (by rfl) rfl rfl (by simp only [List.map_toArray, List.map_cons, List.map_nil]; rfl) ?_
      with_reducible refine (clone93 A n c cs _ HC hn).mono ?_
      rintro e U4 ⟨B_, d_, rfl, RC4, nd_, dm_, BB4⟩
      refine ⟨_, rfl, ?_⟩
      have PP4 : Below V.heap.size V U4 := PP.trans (BB4.mono PP.size)
      refine hK.out _ _ ⟨(pw_cell_below PP4 f0), (pw_cell_below PP4 f1)⟩ (fun hHeld => ?_)
      clear hK K
      refine norm_ (a' := ?_) ?_ ?_
      rotate_left
      · show Act.put _ (some 9) _ = _
        simp only [Act.put, List.setIfInBounds_toArray, List.set_cons_zero, List.set_cons_succ, i64_w, i32_w]
        rfl
      refine pure_ (i := 5) (N := some 10) (v := ?_) (a' := ?_) #[true, true, true, true, true, true, false, false, false] rfl rfl (by kernel_rfl) (fun _ _ _ h => h) (Or.inl ⟨by rfl, ?_⟩) ?_ ?_
      rotate_left
      · intro w'
        go_simp
        with_reducible rfl
      rotate_left
      · simp only [Act.put, List.setIfInBounds_toArray, List.set_cons_zero, List.set_cons_succ, i64_w, i32_w]
        rfl
      refine pure_ (i := 6) (N := some 11) (v := ?_) (a' := ?_) #[true, true, true, true, true, true, true, false, false] rfl rfl (by kernel_rfl) (fun _ _ _ h => h) (Or.inl ⟨by rfl, ?_⟩) ?_ ?_
      rotate_left
      · intro w'
        go_simp
        with_reducible rfl
      rotate_left
      · simp only [Act.put, List.setIfInBounds_toArray, List.set_cons_zero, List.set_cons_succ, i64_w, i32_w]
        rfl
      refine one_ (i := 7) (N := some 4) #[true, true, true, true, true, true, true, true, false] rfl rfl (by kernel_rfl) (by decide) (fun K hK => ?_)
      refine value_ (w1 := ?_) (v := ?_) (by rfl) rfl ?_ ?_
      rotate_left 2
      · go_simp
        constructor
        · rfl
        · rfl
      have BB47 : Below U4.heap.size U4 (U4.alloc (.cells #[.string ⟨#[]⟩, .slice none 0 0] 111)) := (Below.refl _ _).alloc (Nat.le_refl _) _
      have PP47 : Below V.heap.size V (U4.alloc (.cells #[.string ⟨#[]⟩, .slice none 0 0] 111)) := PP4.trans (BB47.mono PP4.size)
      have GA47 : (U4.alloc (.cells #[.string ⟨#[]⟩, .slice none 0 0] 111)).heap[U4.heap.size]? = some (.cells #[.string ⟨#[]⟩, .slice none 0 0] 111 (0, 0)) := get_new _ _ _ rfl
      have ZZ47 : V.heap.size ≤ U4.heap.size := PP4.size
      have RC47 := rdC_below RC4 BB47
      refine hK.out _ _ ⟨(pw_cell_below PP47 f0), (pw_cell_below PP47 f1)⟩ (fun hHeld => ?_)
      clear hK K
      refine norm_ (a' := ?_) ?_ ?_
      rotate_left
      · show Act.put _ (some 4) _ = _
        simp only [Act.put, List.setIfInBounds_toArray, List.set_cons_zero, List.set_cons_succ, i64_w, i32_w]
        rfl
      exact norm_ (by simp only [putAll, Act.put, List.setIfInBounds_toArray, List.set_cons_zero, List.set_cons_succ]) (hCont (B_, d_, U4.heap.size) _ ⟨ZZ47, GA47, RC47, nd_, dm_, PP47⟩)
    · skip
      refine value_ (w1 := ?_) (v := ?_) (by rfl) rfl ?_ ?_
      rotate_left 2
      · go_simp
        constructor
        · rfl
        · rfl
      have BB7 : Below VD.heap.size VD (VD.alloc (.cells #[.string ⟨#[]⟩, .slice none 0 0] 111)) := (Below.refl _ _).alloc (Nat.le_refl _) _
      have PP7 : Below V.heap.size V (VD.alloc (.cells #[.string ⟨#[]⟩, .slice none 0 0] 111)) := PP.trans (BB7.mono PP.size)
      have GA7 : (VD.alloc (.cells #[.string ⟨#[]⟩, .slice none 0 0] 111)).heap[VD.heap.size]? = some (.cells #[.string ⟨#[]⟩, .slice none 0 0] 111 (0, 0)) := get_new _ _ _ rfl
      have ZZ7 : V.heap.size ≤ VD.heap.size := PP.size
      have HC7 := rdC_below HC BB7
      refine hK.out _ _ ⟨(pw_cell_below PP7 f0), (pw_cell_below PP7 f1)⟩ (fun hHeld => ?_)
      clear hK K
      refine norm_ (a' := ?_) ?_ ?_
      rotate_left
      · show Act.put _ (some 4) _ = _
        simp only [Act.put, List.setIfInBounds_toArray, List.set_cons_zero, List.set_cons_succ, i64_w, i32_w]
        rfl
      refine one_ (i := 4) (N := some 9) #[true, true, true, true, true, false, false, true, false] rfl rfl (by kernel_rfl) (by decide) (fun K hK => ?_)
      refine goes_ Try.func93 (by kernel_rfl) rfl #[.slice A n c] (by rfl) rfl rfl (by simp only [List.map_toArray, List.map_cons, List.map_nil]; rfl) ?_
      with_reducible refine (clone93 A n c cs _ HC7 hn).mono ?_
      rintro e U74 ⟨B_, d_, rfl, RC74, nd_, dm_, BB74⟩
      refine ⟨_, rfl, ?_⟩
      have PP74 : Below V.heap.size V U74 := PP7.trans (BB74.mono PP7.size)
      have GA74 := (BB74.block _ (blk_lt GA7)).trans GA7
      have ZZ74 := ZZ7
      refine hK.out _ _ ⟨(pw_cell_below PP74 f0), (pw_cell_below PP74 f1)⟩ (fun hHeld => ?_)
      clear hK K
      refine norm_ (a' := ?_) ?_ ?_
      rotate_left
      · show Act.put _ (some 9) _ = _
        simp only [Act.put, List.setIfInBounds_toArray, List.set_cons_zero, List.set_cons_succ, i64_w, i32_w]
        rfl
      refine pure_ (i := 5) (N := some 10) (v := ?_) (a' := ?_) #[true, true, true, true, true, true, false, true, false] rfl rfl (by kernel_rfl) (fun _ _ _ h => h) (Or.inl ⟨by rfl, ?_⟩) ?_ ?_
      rotate_left
      · intro w'
        go_simp
        with_reducible rfl
      rotate_left
      · simp only [Act.put, List.setIfInBounds_toArray, List.set_cons_zero, List.set_cons_succ, i64_w, i32_w]
        rfl
      refine pure_ (i := 6) (N := some 11) (v := ?_) (a' := ?_) #[true, true, true, true, true, true, true, true, false] rfl rfl (by kernel_rfl) (fun _ _ _ h => h) (Or.inl ⟨by rfl, ?_⟩) ?_ ?_
      rotate_left
      · intro w'
        go_simp
        with_reducible rfl
      rotate_left
      · simp only [Act.put, List.setIfInBounds_toArray, List.set_cons_zero, List.set_cons_succ, i64_w, i32_w]
        rfl
      exact norm_ (by simp only [putAll, Act.put, List.setIfInBounds_toArray, List.set_cons_zero, List.set_cons_succ]) (hCont (B_, d_, VD.heap.size) _ ⟨ZZ74, GA74, RC74, nd_, dm_, PP74⟩)
  rintro ⟨B, d, g4⟩ Y ⟨zz, ga, rc, nd, dm, pp⟩
  have hHeld : Y.cell? ⟨w.heap.size, 0, none⟩ = some (.string nm) ∧ Y.cell? ⟨w.heap.size, 1, none⟩ = some (.slice A n c) := ⟨pw_cell_below pp f0, pw_cell_below pp f1⟩
  dsimp only at ga rc zz nd dm
  refine norm_ (a' := ?_) ?_ ?_
  rotate_left
  · simp only [putAll, Act.put, List.setIfInBounds_toArray, List.set_cons_zero, List.set_cons_succ]
    rfl
  refine last_ (i := 8) (N := none) #[true, true, true, true, true, true, true, true, true] rfl rfl (by kernel_rfl) (by decide) (fun K hK => ?_)
  have j0 : Y.cell? ⟨g4, 0, none⟩ = some (.string ⟨#[]⟩) := (blk_cell ga 0).trans rfl
  have j1 : Y.cell? ⟨g4, 1, none⟩ = some (.slice none 0 0) := (blk_cell ga 1).trans rfl
  have j2 := blk_frozen ga
  have GA := Lib.hid ga
  clear ga
  refine skip_ (w1 := ?_) (by rfl) rfl ?_ ?_
  rotate_left
  · go_simp
    rfl
  refine hK.out _ _ ?_
  clear hK K
  refine done_ (by kernel_rfl) ?_
  have z2 := blk_lt e2.out
  have rcX : RdC ((Y.setCell ⟨g4, 0, none⟩ (.string nm)).setCell ⟨g4, 1, none⟩ (.slice B n d)) B n cs := rdC_set rc GA.out _ _
  have PX : Below V.heap.size V ((Y.setCell ⟨g4, 0, none⟩ (.string nm)).setCell ⟨g4, 1, none⟩ (.slice B n d)) := (pp.setCell zz _).setCell zz _
  have E4 : Hid (((Y.setCell ⟨g4, 0, none⟩ (.string nm)).setCell ⟨g4, 1, none⟩ (.slice B n d)).heap[g4]? = some (.cells #[.string nm, .slice B n d] 111 (0, 0))) := blk_put (blk_put GA.out 0 (.string nm) rfl) 1 (.slice B n d) rfl
  clear j0 j1 j2 hHeld
  go_upto_region 2 with fail
  generalize (Y.setCell ⟨g4, 0, none⟩ (.string nm)).setCell ⟨g4, 1, none⟩ (.slice B n d) = X at *
  have h0 : X.cell? ⟨g4, 0, none⟩ = some (.string nm) := (blk_cell E4.out 0).trans rfl
  have h1 : X.cell? ⟨g4, 1, none⟩ = some (.slice B n d) := (blk_cell E4.out 1).trans rfl
  go_wp2_with fail
  (with_reducible refine (right94 nm B n d cs _ hnm rcX nd dm).mono ?_)
  rintro e Z ⟨rfl, hB⟩
  have PZ := PX.trans (hB.mono PX.size)
  have h0 := pw_cell_below hB h0
  have h1 := pw_cell_below hB h1
  have rcZ := rdC_below rcX hB
  have e2Z := (PZ.block _ z2).trans e2.out
  have k0 : Z.cell? ⟨w.heap.size + 1, 0, none⟩ = some (.string ⟨#[]⟩) := (blk_cell e2Z 0).trans rfl
  have k1 : Z.cell? ⟨w.heap.size + 1, 1, none⟩ = some (.slice none 0 0) := (blk_cell e2Z 1).trans rfl
  have k2 := blk_frozen e2Z
  have K := Lib.hid e2Z
  have BZ := P0.trans (PZ.mono P0.size)
  clear e2Z
  cases hrb : rightB nm cs with
  | false =>
    go_wp2
    have KF : ((Z.setCell ⟨w.heap.size + 1, 0, none⟩ (.string ⟨#[]⟩)).setCell ⟨w.heap.size + 1, 1, none⟩ (.slice none 0 0)).heap[w.heap.size + 1]? = some (.cells #[.string ⟨#[]⟩, .slice none 0 0] 111 (0, 0)) := blk_put (blk_put K.out 0 (.string ⟨#[]⟩) rfl) 1 (.slice none 0 0) rfl
    have m0 : ((Z.setCell ⟨w.heap.size + 1, 0, none⟩ (.string ⟨#[]⟩)).setCell ⟨w.heap.size + 1, 1, none⟩ (.slice none 0 0)).cell? ⟨w.heap.size + 1, 0, none⟩ = some (.string ⟨#[]⟩) := (blk_cell KF 0).trans rfl
    have m1 : ((Z.setCell ⟨w.heap.size + 1, 0, none⟩ (.string ⟨#[]⟩)).setCell ⟨w.heap.size + 1, 1, none⟩ (.slice none 0 0)).cell? ⟨w.heap.size + 1, 1, none⟩ = some (.slice none 0 0) := (blk_cell KF 1).trans rfl
    have BF : Below w.heap.size w ((Z.setCell ⟨w.heap.size + 1, 0, none⟩ (.string ⟨#[]⟩)).setCell ⟨w.heap.size + 1, 1, none⟩ (.slice none 0 0)) := (BZ.setCell (by simp) _).setCell (by simp) _
    have rF : RdC ((Z.setCell ⟨w.heap.size + 1, 0, none⟩ (.string ⟨#[]⟩)).setCell ⟨w.heap.size + 1, 1, none⟩ (.slice none 0 0)) B n cs := rdC_set rcZ K.out _ _
    clear k0 k1 k2 h0 h1 m0 m1
    generalize (Z.setCell ⟨w.heap.size + 1, 0, none⟩ (.string ⟨#[]⟩)).setCell ⟨w.heap.size + 1, 1, none⟩ (.slice none 0 0) = FW at *
    exact bodyPost_num rfl ⟨_, results_row_tmp rfl _ _ (w.heap.size + 1) 111 _ (0, 0) _ rfl KF Try.underlying111 rfl (by kernel_rfl), .inl ⟨hrb, rfl, BF⟩⟩
  | true =>
    go_wp2
    have KF : ((Z.setCell ⟨w.heap.size + 1, 0, none⟩ (.string nm)).setCell ⟨w.heap.size + 1, 1, none⟩ (.slice B n d)).heap[w.heap.size + 1]? = some (.cells #[.string nm, .slice B n d] 111 (0, 0)) := blk_put (blk_put K.out 0 (.string nm) rfl) 1 (.slice B n d) rfl
    have m0 : ((Z.setCell ⟨w.heap.size + 1, 0, none⟩ (.string nm)).setCell ⟨w.heap.size + 1, 1, none⟩ (.slice B n d)).cell? ⟨w.heap.size + 1, 0, none⟩ = some (.string nm) := (blk_cell KF 0).trans rfl
    have m1 : ((Z.setCell ⟨w.heap.size + 1, 0, none⟩ (.string nm)).setCell ⟨w.heap.size + 1, 1, none⟩ (.slice B n d)).cell? ⟨w.heap.size + 1, 1, none⟩ = some (.slice B n d) := (blk_cell KF 1).trans rfl
    have BF : Below w.heap.size w ((Z.setCell ⟨w.heap.size + 1, 0, none⟩ (.string nm)).setCell ⟨w.heap.size + 1, 1, none⟩ (.slice B n d)) := (BZ.setCell (by simp) _).setCell (by simp) _
    have rF : RdC ((Z.setCell ⟨w.heap.size + 1, 0, none⟩ (.string nm)).setCell ⟨w.heap.size + 1, 1, none⟩ (.slice B n d)) B n cs := rdC_set rcZ K.out _ _
    clear k0 k1 k2 h0 h1 m0 m1
    generalize (Z.setCell ⟨w.heap.size + 1, 0, none⟩ (.string nm)).setCell ⟨w.heap.size + 1, 1, none⟩ (.slice B n d) = FW at *
    exact bodyPost_num rfl ⟨_, results_row_tmp rfl _ _ (w.heap.size + 1) 111 _ (0, 0) _ rfl KF Try.underlying111 rfl (by kernel_rfl), .inr ⟨hrb, B, d, rfl, rF, nd, dm, BF⟩⟩
end Go.Proofs.Ytegkclehijdbiaa.V9

set_option linter.unusedSimpArgs false
set_option linter.unusedVariables false
namespace Go.Proofs.Ytegkclehijdbiaa.VA
open Go.RowKit Go.Proofs.YtegkclehijdbiaaW.PrintWords Go.Proofs.YtegkclehijdbiaaW.PrintLast Go.Proofs.Ytegkclehijdbiaa.V1 Go.Proofs.Ytegkclehijdbiaa.V2 Go.Proofs.Ytegkclehijdbiaa.V3 Go.Proofs.Ytegkclehijdbiaa.V4 Go.Proofs.Ytegkclehijdbiaa.V5 Go.Proofs.Ytegkclehijdbiaa.V6 Go.Proofs.Ytegkclehijdbiaa.V8 Go.Proofs.Ytegkclehijdbiaa.V9

/-- A border at block g. -/
structure Bo (w : World) (g : Nat) (nm : ByteArray) (cs : List Cl) (mark : Int) : Prop where
  row : ∃ B n d, w.heap[g]? = some (.cells #[.string nm, .slice B n d, .int .i64 mark] 115 (0, 0)) ∧ RdC w B n cs ∧ n ≤ d ∧ d ≤ 9223372036854775807
/-- What NewBorder answers. -/
def NbR (w : World) (nm : ByteArray) (cs : List Cl) (e : Ending) (w' : World) : Prop :=
  (rightB nm cs = false ∧ e = .returned (.tuple #[.pointer none, .int .i64 1]) ∧ Below w.heap.size w w') ∨
  (rightB nm cs = true ∧ ∃ g, e = .returned (.tuple #[.pointer (some ⟨g, 0, none⟩), .int .i64 0]) ∧ w.heap.size ≤ g ∧ Bo w' g nm cs 0 ∧ Below w.heap.size w w')

set_option maxHeartbeats 1000000 in
theorem border14 (nm : ByteArray) (A : Option Addr) (n c : Nat) (cs : List Cl) (w : World) (hnm : nm.size ≤ 9223372036854775807) (hc : RdC w A n cs) (hn : n ≤ 1000000) : Calls Try.prog 14 #[.agg #[.string nm, .slice A n c]] w (NbR w nm cs) := by
  have P0 : Below w.heap.size w (w.alloc (.cells #[.string nm, .slice A n c] 24)) := by go_grown
  have hc := rdC_below hc P0
  go_enter Try.func14, Try.ntmps14
  go_wp2_with fail
  generalize w.alloc (.cells #[.string nm, .slice A n c] 24) = V at *
  (with_reducible refine (open64 nm A n c cs _ hnm hc hn).mono ?_)
  rintro e W1 (⟨hr, rfl, hB⟩ | ⟨hr, B, d, rfl, rc, nd, dm, hB⟩)
  · have P1 := P0.trans (hB.mono P0.size)
    go_wp2
    go_ret2
    exact .inl ⟨hr, rfl, P1.alloc P1.size _⟩
  · have P1 := P0.trans (hB.mono P0.size)
    go_wp2
    go_ret2
    have P2 : Below W1.heap.size W1 ((W1.alloc (.cells #[.string nm, .slice B n d] 111)).alloc (.cells #[.string nm, .slice B n d, .int .i64 0] 115)) := by go_grown
    exact .inr ⟨hr, W1.heap.size + 1, rfl, by have := P1.size; omega, ⟨B, n, d, get_new _ _ _ (by simp), rdC_below rc P2, nd, dm⟩, P1.trans (P2.mono P1.size)⟩

theorem Bo.below {w w' : World} {g : Nat} {nm : ByteArray} {cs : List Cl} {mark : Int} (h : Bo w g nm cs mark) (hb : Below w.heap.size w w') : Bo w' g nm cs mark := by
  obtain ⟨B, n, d, e, rc, h1, h2⟩ := h.row
  exact ⟨B, n, d, (hb.block _ (blk_lt e)).trans e, rdC_below rc hb, h1, h2⟩
theorem Bo.lt {w : World} {g : Nat} {nm : ByteArray} {cs : List Cl} {mark : Int} (h : Bo w g nm cs mark) : g < w.heap.size := by
  obtain ⟨B, n, d, e, _⟩ := h.row
  exact blk_lt e
set_option maxHeartbeats 400000 in
theorem name16 (g : Nat) (nm : ByteArray) (cs : List Cl) (mark : Int) (w : World) (h : Bo w g nm cs mark) : Calls Try.prog 16 #[.pointer (some ⟨g, 0, none⟩)] w fun e w' => e = .returned (.string nm) ∧ w = w' := by
  obtain ⟨B, n, d, e, _⟩ := h.row
  have f0 : w.cell? ⟨g, 0, none⟩ = some (.string nm) := (blk_cell e 0).trans rfl
  clear e
  go_enter Try.func16, Try.ntmps16
  go_wp2
  go_ret
  exact ⟨rfl, rfl⟩
set_option maxHeartbeats 400000 in
theorem mark20 (g : Nat) (nm : ByteArray) (cs : List Cl) (mark : Int) (w : World) (h : Bo w g nm cs mark) : Calls Try.prog 20 #[.pointer (some ⟨g, 0, none⟩)] w fun e w' => e = .returned (.int .i64 mark) ∧ w = w' := by
  obtain ⟨B, n, d, e, _⟩ := h.row
  have f0 : w.cell? ⟨g, 2, none⟩ = some (.int .i64 mark) := (blk_cell e 2).trans rfl
  clear e
  go_enter Try.func20, Try.ntmps20
  go_wp2
  go_ret
  exact ⟨rfl, rfl⟩
/-- The cells of columns are not the border's. -/
theorem rdC_mark {w : World} {g n : Nat} {B B' : Option Addr} {n' d' : Nat} {cs : List Cl} {a : ByteArray} {mark : Int} (h : RdC w B n cs) (hg : w.heap[g]? = some (.cells #[.string a, .slice B' n' d', .int .i64 mark] 115 (0, 0))) (u : Value) : RdC (w.setCell ⟨g, 2, none⟩ u) B n cs := by
  refine ⟨h.1, h.2.1, fun hn => ?_⟩
  obtain ⟨g', o, e, hc⟩ := h.2.2 hn
  refine ⟨g', o, e, fun i hi => ?_⟩
  obtain ⟨c0, c1, hf⟩ := hc i hi
  have hne : g ≠ g' := by
    rintro rfl
    rw [blk_cell hg] at c0 c1
    have h1 := (Array.getElem?_eq_some_iff.1 c1).1
    simp at h1
    rcases (show o + i * 2 = 0 ∨ o + i * 2 = 1 by omega) with h0 | h0
    · rw [h0] at c1; simp at c1
    · rw [h0] at c0; simp at c0
  exact ⟨(World.cell?_setCell_far _ _ _ _ hne).trans c0, (World.cell?_setCell_far _ _ _ _ hne).trans c1, hf⟩
theorem Bo.set {w : World} {g : Nat} {nm : ByteArray} {cs : List Cl} {mark : Int} (h : Bo w g nm cs mark) (m : Int) : Bo (w.setCell ⟨g, 2, none⟩ (.int .i64 m)) g nm cs m := by
  obtain ⟨B, n, d, e, rc, h1, h2⟩ := h.row
  exact ⟨B, n, d, blk_put e 2 _ rfl, rdC_mark rc e _, h1, h2⟩
/-- The world but for the border's mark. -/
def StR (w : World) (g : Nat) (nm : ByteArray) (cs : List Cl) (r m : Int) (e : Ending) (w' : World) : Prop := e = .returned (.int .i64 r) ∧ Bo w' g nm cs m ∧ ∀ b, b ≤ g → b ≤ w.heap.size → Below b w w'
set_option maxHeartbeats 400000 in
theorem set17 (g : Nat) (nm : ByteArray) (cs : List Cl) (mark m : Int) (w : World) (h : Bo w g nm cs mark) : Calls Try.prog 17 #[.pointer (some ⟨g, 0, none⟩), .int .i64 m] w (StR w g nm cs (if m < 0 then 1 else 0) (if m < 0 then mark else m)) := by
  have hs := h.set m
  obtain ⟨B, n, d, e, _⟩ := h.row
  have f0 : w.cell? ⟨g, 2, none⟩ = some (.int .i64 mark) := (blk_cell e 2).trans rfl
  have f1 := blk_frozen e
  clear e
  by_cases hm : m < 0
  · have H := Lib.hid h
    rw [if_pos hm, if_pos hm]
    clear h hs
    go_enter Try.func17, Try.ntmps17
    go_wp2
    go_ret
    exact ⟨rfl, H.out, fun b _ _ => (Below.refl _ _)⟩
  · have H := Lib.hid hs
    rw [if_neg hm, if_neg hm]
    clear h hs
    go_enter Try.func17, Try.ntmps17
    go_wp2
    go_ret
    exact ⟨rfl, H.out, fun b hb hb2 => (Below.refl _ _).setCell hb _⟩
end Go.Proofs.Ytegkclehijdbiaa.VA

set_option linter.unusedSimpArgs false
set_option linter.unusedVariables false
namespace Go.Proofs.Ytegkclehijdbiaa.VB
open Go.RowKit Go.Proofs.YtegkclehijdbiaaW.PrintWords Go.Proofs.YtegkclehijdbiaaW.PrintLast Go.Proofs.Ytegkclehijdbiaa.V1 Go.Proofs.Ytegkclehijdbiaa.V2 Go.Proofs.Ytegkclehijdbiaa.V3 Go.Proofs.Ytegkclehijdbiaa.V4 Go.Proofs.Ytegkclehijdbiaa.V5 Go.Proofs.Ytegkclehijdbiaa.V6 Go.Proofs.Ytegkclehijdbiaa.V8 Go.Proofs.Ytegkclehijdbiaa.V9 Go.Proofs.Ytegkclehijdbiaa.VA

/-- What a border answers. -/
def chk (cs : List Cl) (ls : List (List Vl)) (id mark : Int) : Int := if fitsB cs ls = false then 13 else if id < 1 then 1 else if id ≤ mark then 9 else if mark < id - 1 then 10 else 0

set_option maxRecDepth 20000 in
set_option maxHeartbeats 1000000 in
theorem check19 (g : Nat) (nm : ByteArray) (cs : List Cl) (mark id : Int) (A : Option Addr) (m c : Nat) (ls : List (List Vl)) (w : World) (h : Bo w g nm cs mark) (hr : RdR w A m ls) (m0 : -9223372036854775808 ≤ mark) (m1 : mark ≤ 9223372036854775807) (i0 : -9223372036854775808 ≤ id) (i1 : id ≤ 9223372036854775807) :
    Calls Try.prog 19 #[.pointer (some ⟨g, 0, none⟩), .agg #[.int .i64 id, .slice A m c]] w fun e w' => e = .returned (.int .i64 (chk cs ls id mark)) ∧ Below w.heap.size w w' := by
  have hv := Lib.hid (show chk cs ls id mark = if fitsB cs ls = false then 13 else if id < 1 then 1 else if id ≤ mark then 9 else if mark < id - 1 then 10 else 0 from rfl)
  have P0 : Below w.heap.size w (w.alloc (.cells #[.int .i64 id, .slice A m c] 38)) := by go_grown
  have e0 : (w.alloc (.cells #[.int .i64 id, .slice A m c] 38)).cell? ⟨w.heap.size, 0, none⟩ = some (.int .i64 id) := by go_simp
  have f2 : (w.alloc (.cells #[.int .i64 id, .slice A m c] 38)).cell? ⟨w.heap.size, 1, none⟩ = some (.slice A m c) := by go_simp
  have h := h.below P0
  have hr := rdR_below hr P0
  go_enter Try.func19, Try.ntmps19
  go_upto_region 3 with fail
  generalize w.alloc (.cells #[.int .i64 id, .slice A m c] 38) = W0 at *
  obtain ⟨B, n, d, e, rc, nd, dm⟩ := h.row
  have f0 : W0.cell? ⟨g, 0, none⟩ = some (.string nm) := (blk_cell e 0).trans rfl
  have f1 : W0.cell? ⟨g, 1, none⟩ = some (.slice B n d) := (blk_cell e 1).trans rfl
  have f3 : W0.cell? ⟨g, 2, none⟩ = some (.int .i64 mark) := (blk_cell e 2).trans rfl
  have P0 := Lib.hid P0
  clear e
  refine start_ (n := 9) (S := fun w' => w'.cell? ⟨g, 0, none⟩ = some (.string nm) ∧ w'.cell? ⟨g, 1, none⟩ = some (.slice B n d) ∧ w'.cell? ⟨w.heap.size, 1, none⟩ = some (.slice A m c)) (ds := []) #[false, false, false, false, false, false, false, false, false] (by kernel_rfl) rfl rfl ⟨f0, f1, f2⟩ (fun hHeld => ?_)
  refine pure_ (i := 0) (N := some 9) (v := ?_) (a' := ?_) #[true, false, false, false, false, false, false, false, false] rfl rfl (by kernel_rfl) (fun _ _ _ h => h) (Or.inl ⟨by rfl, ?_⟩) ?_ ?_
  rotate_left
  · intro w'
    go_simp
    with_reducible rfl
  rotate_left
  · simp only [Act.put, List.setIfInBounds_toArray, List.set_cons_zero, List.set_cons_succ, i64_w, i32_w]
    rfl
  refine pure_ (i := 1) (N := some 10) (v := ?_) (a' := ?_) #[true, true, false, false, false, false, false, false, false] rfl rfl (by kernel_rfl) (fun _ _ _ h => h) (Or.inl ⟨by rfl, ?_⟩) ?_ ?_
  rotate_left
  · intro w'
    go_simp
    with_reducible rfl
  rotate_left
  · simp only [Act.put, List.setIfInBounds_toArray, List.set_cons_zero, List.set_cons_succ, i64_w, i32_w]
    rfl
  refine pure_ (i := 2) (N := some 11) (v := ?_) (a' := ?_) #[true, true, true, false, false, false, false, false, false] rfl rfl (by kernel_rfl) (fun _ _ _ h => h) (Or.inl ⟨by rfl, ?_⟩) ?_ ?_
  rotate_left
  · intro w'
    go_simp
    with_reducible rfl
  rotate_left
  · simp only [Act.put, List.setIfInBounds_toArray, List.set_cons_zero, List.set_cons_succ, i64_w, i32_w]
    rfl
  refine pure_ (i := 4) (N := some 13) (v := ?_) (a' := ?_) #[true, true, true, false, true, false, false, false, false] rfl rfl (by kernel_rfl) (fun _ _ _ h => h) (Or.inl ⟨by rfl, ?_⟩) ?_ ?_
  rotate_left
  · intro w'
    go_simp
    with_reducible rfl
  rotate_left
  · simp only [Act.put, List.setIfInBounds_toArray, List.set_cons_zero, List.set_cons_succ, i64_w, i32_w]
    rfl
  refine take_ (i := 3) (N := some 12) (v := ?_) (a' := ?_) #[true, true, true, true, true, false, false, false, false] rfl rfl (by kernel_rfl) (fun _ _ _ h => h) (Or.inl ⟨by rfl, ?_⟩) hHeld ?_ ?_
  rotate_left
  · rintro w' ⟨s0, s1, s2⟩
    go_simp
    with_reducible rfl
  rotate_left
  · simp only [Act.put, List.setIfInBounds_toArray, List.set_cons_zero, List.set_cons_succ, i64_w, i32_w]
    rfl
  refine take_ (i := 5) (N := some 14) (v := ?_) (a' := ?_) #[true, true, true, true, true, true, false, false, false] rfl rfl (by kernel_rfl) (fun _ _ _ h => h) (Or.inl ⟨by rfl, ?_⟩) hHeld ?_ ?_
  rotate_left
  · rintro w' ⟨s0, s1, s2⟩
    go_simp
    with_reducible rfl
  rotate_left
  · simp only [Act.put, List.setIfInBounds_toArray, List.set_cons_zero, List.set_cons_succ, i64_w, i32_w]
    rfl
  refine one_ (i := 6) (N := some 15) #[true, true, true, true, true, true, true, false, false] rfl rfl (by kernel_rfl) (by decide) (fun K hK => ?_)
  refine goes_ Try.func67 (by kernel_rfl) rfl #[.agg #[.string nm, .slice B n d], .slice A m c] (by rfl) rfl rfl (by simp only [List.map_toArray, List.map_cons, List.map_nil]; rfl) ?_
  with_reducible refine (fits67 nm B A n d m c cs ls _ (rdC_below rc (Below.refl _ _).drew) (rdR_below hr (Below.refl _ _).drew)).mono ?_
  rintro e W1 ⟨rfl, hB⟩
  refine ⟨_, rfl, ?_⟩
  have P1 : Below W0.heap.size W0 W1 := (Below.refl _ W0).drew.trans hB
  refine hK.out _ _ ⟨(pw_cell_below P1 f0), (pw_cell_below P1 f1), (pw_cell_below P1 f2)⟩ (fun hHeld => ?_)
  clear hK K
  refine norm_ (a' := ?_) ?_ ?_
  rotate_left
  · show Act.put _ (some 15) _ = _
    simp only [Act.put, List.setIfInBounds_toArray, List.set_cons_zero, List.set_cons_succ, i64_w, i32_w]
    rfl
  refine pure_ (i := 7) (N := some 16) (v := ?_) (a' := ?_) #[true, true, true, true, true, true, true, true, false] rfl rfl (by kernel_rfl) (fun _ _ _ h => h) (Or.inl ⟨by rfl, ?_⟩) ?_ ?_
  rotate_left
  · intro w'
    go_simp
    with_reducible rfl
  rotate_left
  · simp only [Act.put, List.setIfInBounds_toArray, List.set_cons_zero, List.set_cons_succ, i64_w, i32_w]
    rfl
  refine pure_ (i := 8) (N := some 8) (v := ?_) (a' := ?_) #[true, true, true, true, true, true, true, true, true] rfl rfl (by kernel_rfl) (fun _ _ _ h => h) (Or.inl ⟨by rfl, ?_⟩) ?_ ?_
  rotate_left
  · intro w'
    go_simp
    with_reducible rfl
  rotate_left
  · simp only [Act.put, List.setIfInBounds_toArray, List.set_cons_zero, List.set_cons_succ, i64_w, i32_w]
    rfl
  refine done_ (by kernel_rfl) ?_
  have PB := P0.out.trans (P1.mono P0.out.size)
  have g3 := pw_cell_below P1 f3
  have g0 := pw_cell_below P1 e0
  clear f0 f1 f2 f3 e0 hHeld
  cases hf : fitsB cs ls with
  | false =>
    have hF : Hid (chk cs ls id mark = 13) := by show _ = _; rw [hv.out, hf]; rfl
    go_wp2
    go_ret
    exact ⟨by rw [hF.out]; rfl, PB⟩
  | true =>
    rw [hf] at hv
    by_cases h1 : id < 1
    · have hF : Hid (chk cs ls id mark = 1) := by show _ = _; rw [hv.out]; simp [h1]
      go_wp2
      go_ret
      exact ⟨by rw [hF.out]; rfl, PB⟩
    · have k1 : 1 ≤ id := by omega
      go_upto_region 7 with fail
      go_quiet (fail)
      by_cases h2 : id ≤ mark
      · have hF : Hid (chk cs ls id mark = 9) := by show _ = _; rw [hv.out]; simp [h1, h2]
        go_wp2
        go_ret
        exact ⟨by rw [hF.out]; rfl, pw_below_drewN PB _⟩
      · go_upto_region 9 with fail
        go_quiet (fail)
        by_cases h3 : mark < id - 1
        · have hF : Hid (chk cs ls id mark = 10) := by show _ = _; rw [hv.out]; simp [h1, h2, h3]
          go_wp2
          go_ret
          exact ⟨by rw [hF.out]; rfl, pw_below_drewN PB _⟩
        · have hF : Hid (chk cs ls id mark = 0) := by show _ = _; rw [hv.out]; simp [h1, h2, h3]
          go_wp2
          go_ret
          exact ⟨by rw [hF.out]; rfl, pw_below_drewN PB _⟩

set_option maxRecDepth 20000 in
set_option maxHeartbeats 1000000 in
theorem take21 (g : Nat) (nm : ByteArray) (cs : List Cl) (mark id : Int) (A : Option Addr) (m c : Nat) (ls : List (List Vl)) (w : World) (h : Bo w g nm cs mark) (hr : RdR w A m ls) (m0 : -9223372036854775808 ≤ mark) (m1 : mark ≤ 9223372036854775807) (i0 : -9223372036854775808 ≤ id) (i1 : id ≤ 9223372036854775807) :
    Calls Try.prog 21 #[.pointer (some ⟨g, 0, none⟩), .agg #[.int .i64 id, .slice A m c]] w (StR w g nm cs (chk cs ls id mark) (if chk cs ls id mark = 0 then id else mark)) := by
  have P0 : Below w.heap.size w (w.alloc (.cells #[.int .i64 id, .slice A m c] 38)) := by go_grown
  have e0 : (w.alloc (.cells #[.int .i64 id, .slice A m c] 38)).cell? ⟨w.heap.size, 0, none⟩ = some (.int .i64 id) := by go_simp
  have e1 : (w.alloc (.cells #[.int .i64 id, .slice A m c] 38)).cell? ⟨w.heap.size, 1, none⟩ = some (.slice A m c) := by go_simp
  have h1 := h.below P0
  have hr := rdR_below hr P0
  obtain ⟨mk, hmk⟩ : ∃ x : Int, x = if chk cs ls id mark = 0 then id else mark := ⟨_, rfl⟩
  rw [← hmk]
  have Hmk := Lib.hid hmk
  clear hmk
  go_enter Try.func21, Try.ntmps21
  go_wp2_with fail
  generalize w.alloc (.cells #[.int .i64 id, .slice A m c] 38) = W0 at *
  (with_reducible refine (check19 g nm cs mark id A m c ls _ h1 hr m0 m1 i0 i1).mono ?_)
  rintro e W1 ⟨rfl, hB⟩
  have PB := P0.trans (hB.mono P0.size)
  have g0 := pw_cell_below hB e0
  have b1 := h1.below hB
  have s1 := b1.set id
  clear e0 e1
  obtain ⟨B, n, d, e, _⟩ := b1.row
  have f0 : W1.cell? ⟨g, 2, none⟩ = some (.int .i64 mark) := (blk_cell e 2).trans rfl
  have f1 := blk_frozen e
  clear e
  generalize chk cs ls id mark = r at *
  have S1 := Lib.hid s1
  have B1 := Lib.hid b1
  clear s1 b1 h h1
  by_cases hz : r = 0
  · have hF : Hid (mk = id) := by show _ = _; rw [Hmk.out, if_pos hz]
    subst hz
    go_wp2
    go_ret
    exact ⟨rfl, by rw [hF.out]; exact S1.out, fun b hb hb2 => (PB.mono hb2).setCell hb _⟩
  · have hF : Hid (mk = mark) := by show _ = _; rw [Hmk.out, if_neg hz]
    have hz2 : (r == 0) = false := by simpa using hz
    go_wp2
    go_ret
    exact ⟨rfl, by rw [hF.out]; exact B1.out, fun b hb hb2 => PB.mono hb2⟩
end Go.Proofs.Ytegkclehijdbiaa.VB

set_option linter.unusedSimpArgs false
set_option linter.unusedVariables false
namespace Go.Proofs.Ytegkclehijdbiaa.VC
open Go.RowKit Go.Proofs.YtegkclehijdbiaaW.PrintWords Go.Proofs.YtegkclehijdbiaaW.PrintLast Go.Proofs.Ytegkclehijdbiaa.V1 Go.Proofs.Ytegkclehijdbiaa.V2 Go.Proofs.Ytegkclehijdbiaa.V3 Go.Proofs.Ytegkclehijdbiaa.V4 Go.Proofs.Ytegkclehijdbiaa.V5 Go.Proofs.Ytegkclehijdbiaa.V6 Go.Proofs.Ytegkclehijdbiaa.V8 Go.Proofs.Ytegkclehijdbiaa.V9 Go.Proofs.Ytegkclehijdbiaa.VA Go.Proofs.Ytegkclehijdbiaa.VB

def aC : List Cl := [⟨⟨#[97]⟩, 1⟩]
theorem rd_none {α : Type} [Inhabited α] {sz : Nat} {P : World → Nat → Nat → α → Prop} (w : World) : Rd sz P w none 0 ([] : List α) := ⟨rfl, by omega, fun h => absurd h (by omega)⟩
theorem aC_right : rightB ⟨#[115]⟩ aC = true := by decide
theorem c1 : chk aC [] 1 0 = 0 := by decide
theorem c2 : chk aC [] 3 1 = 10 := by decide
theorem c3 : chk aC [] 1 1 = 9 := by decide

set_option maxRecDepth 8000 in
set_option maxHeartbeats 1000000 in
/-- The document's example. -/
theorem awake13 (w : World) : Calls Try.prog 13 #[] w fun e w' => e = .returned (.bool true) ∧ Below w.heap.size w w' := by
  have P0 : Below w.heap.size w (w.alloc (.cells #[.string ⟨#[97]⟩, .int .i64 1] 109)) := by go_grown
  have rc : RdC (w.alloc (.cells #[.string ⟨#[97]⟩, .int .i64 1] 109)) (some ⟨w.heap.size, 0, none⟩) 1 aC := by
    refine ⟨rfl, by omega, fun _ => ⟨_, _, rfl, fun i hi => ?_⟩⟩
    obtain rfl : i = 0 := by omega
    exact ⟨by go_simp; rfl, by go_simp; rfl, by decide, by decide, by decide⟩
  go_enter Try.func13, Try.ntmps13
  go_wp2_with fail
  generalize w.alloc (.cells #[.string ⟨#[97]⟩, .int .i64 1] 109) = W0 at *
  (with_reducible refine (border14 _ _ 1 1 aC _ (by decide) rc (by omega)).mono ?_)
  rintro e W1 (⟨hr, _⟩ | ⟨hr, g, rfl, hg, hb, hB⟩)
  · rw [aC_right] at hr; cases hr
  have P1 := P0.trans (hB.mono P0.size)
  have hgw : w.heap.size ≤ g := by have := P0.size; omega
  clear rc hr hB
  go_wp2_with fail
  (with_reducible refine (take21 g _ aC 0 1 none 0 0 [] _ hb (rd_none _) (by omega) (by omega) (by omega) (by omega)).mono ?_)
  rintro e W2 ⟨rfl, hb2, hB2⟩
  rw [c1] at hb2 ⊢
  have P2 := P1.trans (hB2 _ hgw P1.size)
  rw [if_pos rfl] at hb2
  clear hb hB2
  go_wp2_with fail
  (with_reducible refine (take21 g _ aC 1 3 none 0 0 [] _ hb2 (rd_none _) (by omega) (by omega) (by omega) (by omega)).mono ?_)
  rintro e W3 ⟨rfl, hb3, hB3⟩
  rw [c2] at hb3 ⊢
  have P3 := P2.trans (hB3 _ hgw P2.size)
  rw [if_neg (by decide)] at hb3
  clear hb2 hB3
  go_wp2_with fail
  (with_reducible refine (take21 g _ aC 1 1 none 0 0 [] _ hb3 (rd_none _) (by omega) (by omega) (by omega) (by omega)).mono ?_)
  rintro e W4 ⟨rfl, hb4, hB4⟩
  rw [c3] at hb4 ⊢
  have P4 := P3.trans (hB4 _ hgw P3.size)
  rw [if_neg (by decide)] at hb4
  clear hb3 hB4
  go_wp2_with fail
  (with_reducible refine (mark20 g _ aC 1 _ hb4).mono ?_)
  rintro e W5 ⟨rfl, rfl⟩
  go_wp2
  go_ret
  exact ⟨rfl, P4⟩
end Go.Proofs.Ytegkclehijdbiaa.VC

set_option linter.unusedSimpArgs false
set_option linter.unusedVariables false
namespace Go.Proofs.Ytegkclehijdbiaa.VD
open Go.RowKit Go.Proofs.YtegkclehijdbiaaW.PrintWords Go.Proofs.YtegkclehijdbiaaW.PrintLast Go.Proofs.Ytegkclehijdbiaa.V1 Go.Proofs.Ytegkclehijdbiaa.V2 Go.Proofs.Ytegkclehijdbiaa.V3 Go.Proofs.Ytegkclehijdbiaa.V4 Go.Proofs.Ytegkclehijdbiaa.V5 Go.Proofs.Ytegkclehijdbiaa.V6 Go.Proofs.Ytegkclehijdbiaa.V8 Go.Proofs.Ytegkclehijdbiaa.V9 Go.Proofs.Ytegkclehijdbiaa.VA Go.Proofs.Ytegkclehijdbiaa.VB

/-- A batch. -/
structure Bt where
  id : Int
  rows : List (List Vl)
instance : Inhabited Bt := ⟨⟨0, []⟩⟩
def atB (w : World) (g o : Nat) (b : Bt) : Prop := ∃ A n c, w.cell? ⟨g, o, none⟩ = some (.int .i64 b.id) ∧ w.cell? ⟨g, o + 1, none⟩ = some (.slice A n c) ∧ RdR w A n b.rows ∧ n ≤ c ∧ c ≤ 9223372036854775807 ∧ -9223372036854775808 ≤ b.id ∧ b.id ≤ 9223372036854775807
theorem atB.below {w w' : World} {g o : Nat} {b : Bt} (h : atB w g o b) (hb : Below w.heap.size w w') : atB w' g o b := by
  obtain ⟨A, n, c, h1, h2, h3, h4⟩ := h
  exact ⟨A, n, c, pw_cell_below hb h1, pw_cell_below hb h2, rdR_below h3 hb, h4⟩
abbrev RdB := Rd 2 atB
theorem rdB_below {w w' : World} {A : Option Addr} {n : Nat} {l : List Bt} (h : RdB w A n l) (hb : Below w.heap.size w w') : RdB w' A n l := Rd.below (P := atB) (fun h hb => atB.below h hb) h hb

/-- Too great, or not: and then it is small. -/
def GrR (w : World) (Q : Prop) (e : Ending) (w' : World) : Prop := ∃ G : Bool, e = .returned (.bool G) ∧ (G = false → Q) ∧ Below w.heap.size w w'
set_option maxHeartbeats 1000000 in
theorem great25 (A : Option Addr) (n c : Nat) (l : List Vl) (w : World) (hr : RdV w A n l) : Calls Try.prog 25 #[.slice A n c] w (GrR w (n ≤ 30)) := by
  have hn := hr.2.1
  by_cases hb : 30 < n
  · go_enter Try.func25, Try.ntmps25
    go_wp2
    go_ret
    exact ⟨true, rfl, by simp, Below.refl _ _⟩
  · go_enter Try.func25, Try.ntmps25
    go_wp2
    go_loopw [3] (fun i wr => ∃ k : Nat, i = .int .i64 k ∧ k ≤ n ∧ ∃ q, wr = w.drewN q) (fun i _ => n - (intOf i).toNat)
    case atStart => exact ⟨0, rfl, by omega, 0, rfl⟩
    case round =>
      obtain ⟨k, rfl, hk, q, rfl⟩ := hrel
      by_cases hlt : k < n
      · obtain ⟨g, o, rfl, ⟨c0, c1, c2, hf⟩, q2⟩ := hr.at_ hlt
        have q0 : (0 : Int) ≤ (k : Int) := by omega
        have q1 : (k : Int) < (n : Int) := by omega
        have hs := hf.s1
        by_cases hs3 : 300 < (el l k).s.size
        · go_wp2
          go_ret
          exact ⟨true, rfl, by simp, pw_below_drewN (Below.refl _ _) _⟩
        · go_wp2
          go_roundw
          case rel => exact ⟨k + 1, by go_num, by omega, _, rfl⟩
          case measure => simp [intOf] <;> omega
      · obtain rfl : k = n := by omega
        go_wp2
        go_ret
        exact ⟨false, rfl, fun _ => by omega, pw_below_drewN (Below.refl _ _) _⟩
set_option maxHeartbeats 1000000 in
theorem great63 (nm : ByteArray) (A : Option Addr) (n c : Nat) (cs : List Cl) (w : World) (hnm : nm.size ≤ 9223372036854775807) (hc : RdC w A n cs) : Calls Try.prog 63 #[.agg #[.string nm, .slice A n c, .slice none 0 0, .int .i64 0, .int .i64 0, .int .i64 0]] w (GrR w (n ≤ 12)) := by
  have hn := hc.2.1
  have f0 : (w.alloc (.cells #[.string nm, .slice A n c, .slice none 0 0, .int .i64 0, .int .i64 0, .int .i64 0] 107)).cell? ⟨w.heap.size, 0, none⟩ = some (.string nm) := by go_simp
  have f1 : (w.alloc (.cells #[.string nm, .slice A n c, .slice none 0 0, .int .i64 0, .int .i64 0, .int .i64 0] 107)).cell? ⟨w.heap.size, 1, none⟩ = some (.slice A n c) := by go_simp
  have f2 : (w.alloc (.cells #[.string nm, .slice A n c, .slice none 0 0, .int .i64 0, .int .i64 0, .int .i64 0] 107)).cell? ⟨w.heap.size, 2, none⟩ = some (.slice none 0 0) := by go_simp
  have P0 : Below w.heap.size w (w.alloc (.cells #[.string nm, .slice A n c, .slice none 0 0, .int .i64 0, .int .i64 0, .int .i64 0] 107)) := by go_grown
  have hc := rdC_below hc P0
  by_cases hb : 12 < n
  · go_enter Try.func63, Try.ntmps63
    go_wp2
    go_ret
    exact ⟨true, rfl, by simp, P0⟩
  · by_cases hb2 : 100 < nm.size
    · go_enter Try.func63, Try.ntmps63
      go_wp2
      go_ret
      exact ⟨true, rfl, by simp, P0⟩
    · go_enter Try.func63, Try.ntmps63
      go_wp2
      generalize w.alloc (.cells #[.string nm, .slice A n c, .slice none 0 0, .int .i64 0, .int .i64 0, .int .i64 0] 107) = W0 at *
      go_loopw [3] (fun i wr => ∃ k : Nat, i = .int .i64 k ∧ k ≤ n ∧ ∃ q, wr = W0.drewN q) (fun i _ => n - (intOf i).toNat)
      case atStart => exact ⟨0, rfl, by omega, 0, rfl⟩
      case round =>
        obtain ⟨k, rfl, hk, q, rfl⟩ := hrel
        by_cases hlt : k < n
        · obtain ⟨g, o, rfl, ⟨c0, c1, hf⟩, q2⟩ := hc.at_ hlt
          have q0 : (0 : Int) ≤ (k : Int) := by omega
          have q1 : (k : Int) < (n : Int) := by omega
          have hs := hf.s1
          by_cases hs3 : 100 < (el cs k).s.size
          · go_wp2
            go_ret
            exact ⟨true, rfl, by simp, pw_below_drewN P0 _⟩
          · go_wp2
            go_roundw
            case rel => exact ⟨k + 1, by go_num, by omega, _, rfl⟩
            case measure => simp [intOf] <;> omega
        · obtain rfl : k = n := by omega
          go_wp2
          go_loopw [4] (fun i wr => i = .int .i64 0 ∧ ∃ q, wr = W0.drewN q) (fun i _ => 0)
          case atStart => exact ⟨rfl, _, rfl⟩
          case round =>
            obtain ⟨rfl, q, rfl⟩ := hrel
            go_wp2
            go_ret
            exact ⟨false, rfl, fun _ => by omega, pw_below_drewN P0 _⟩

set_option maxRecDepth 8000 in
set_option maxHeartbeats 2000000 in
theorem great12 (nm : ByteArray) (A L : Option Addr) (n c m d : Nat) (cs : List Cl) (bs : List Bt) (w : World) (hnm : nm.size ≤ 9223372036854775807) (hc : RdC w A n cs) (hl : RdB w L m bs) :
    Calls Try.prog 12 #[.agg #[.string nm, .slice A n c], .slice L m d] w (GrR w (n ≤ 12 ∧ m ≤ 40)) := by
  have hm := hl.2.1
  have P0 : Below w.heap.size w (w.alloc (.cells #[.string nm, .slice A n c] 24)) := by go_grown
  have hc := rdC_below hc P0
  have hl := rdB_below hl P0
  go_enter Try.func12, Try.ntmps12
  go_wp2_with fail
  generalize w.alloc (.cells #[.string nm, .slice A n c] 24) = W0 at *
  (with_reducible refine (great63 nm A n c cs _ hnm hc).mono ?_)
  rintro e W1 ⟨G, rfl, hG, hB⟩
  have P1 := P0.trans (hB.mono P0.size)
  have hl := rdB_below hl hB
  clear hc hB
  cases G with
  | true =>
    go_wp2
    go_ret
    exact ⟨true, rfl, by simp, P1⟩
  | false =>
    have hn := Lib.hid (hG rfl)
    clear hG
    by_cases hb : 40 < m
    · go_wp2
      go_ret
      exact ⟨true, rfl, by simp, P1⟩
    · go_wp2
      go_loopw [5] (fun i wr => ∃ k : Nat, i = .int .i64 k ∧ k ≤ m ∧ Below W1.heap.size W1 wr) (fun i _ => m - (intOf i).toNat)
      case atStart => exact ⟨0, rfl, by omega, Below.refl _ _⟩
      case round =>
        obtain ⟨k, rfl, hk, bel⟩ := hrel
        by_cases hlt : k < m
        · obtain ⟨g, o, rfl, ⟨A1, n1, c1, z0, z1, hr, h1, h2, i0, i1⟩, q2⟩ := (rdB_below hl bel).at_ hlt
          have q0 : (0 : Int) ≤ (k : Int) := by omega
          have q1 : (k : Int) < (m : Int) := by omega
          have hn1 := hr.2.1
          have PX := P1.trans (bel.mono P1.size)
          by_cases hb1 : 40 < n1
          · go_wp2
            go_ret
            exact ⟨true, rfl, by simp, PX⟩
          · go_wp2
            clear z0
            generalize wr = X at *
            go_loopw [6] (fun i wy => ∃ j : Nat, i = .int .i64 j ∧ j ≤ n1 ∧ Below X.heap.size X wy) (fun i _ => n1 - (intOf i).toNat)
            case atStart => exact ⟨0, rfl, by omega, Below.refl _ _⟩
            case round =>
              obtain ⟨j, rfl, hj, bel2⟩ := hrel
              have z2 := pw_cell_below bel2 z1
              by_cases hltj : j < n1
              · obtain ⟨g', o', rfl, ⟨A2, n2, c2, y0, hr2, _⟩, q3⟩ := (rdR_below hr bel2).at_ hltj
                rw [Nat.mul_one] at q3 y0
                have q4 : (0 : Int) ≤ (j : Int) := by omega
                have q5 : (j : Int) < (n1 : Int) := by omega
                clear z1
                go_wp2_with fail
                (with_reducible refine (great25 A2 n2 c2 _ _ hr2).mono ?_)
                rintro e Y ⟨G, rfl, _, hB⟩
                have P3 := bel2.trans (hB.mono bel2.size)
                clear z2 y0
                cases G with
                | true =>
                  go_wp2
                  go_ret
                  exact ⟨true, rfl, by simp, PX.trans (P3.mono PX.size)⟩
                | false =>
                  go_wp2
                  go_roundw
                  case rel => exact ⟨j + 1, by go_num, by omega, P3⟩
                  case measure => simp [intOf] <;> omega
              · obtain rfl : j = n1 := by omega
                clear z1
                go_wp2
                go_roundw
                case rel => exact ⟨k + 1, by go_num, by omega, bel.trans (bel2.mono bel.size)⟩
                case measure => simp [intOf] <;> omega
        · obtain rfl : k = m := by omega
          go_wp2
          go_ret
          exact ⟨false, rfl, fun _ => ⟨hn.out, by omega⟩, P1.trans (bel.mono P1.size)⟩
end Go.Proofs.Ytegkclehijdbiaa.VD
