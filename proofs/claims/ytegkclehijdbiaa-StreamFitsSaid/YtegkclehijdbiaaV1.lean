import Derived.Test.YtegkclehijdbiaaWWords
import Derived.Test.YtegkclehijdbiaaWLast
import Derived.Test.YtegkclehijdbiaaProg
import Derived.Handy
import Derived.Lib.Hide
set_option linter.unusedSimpArgs false
set_option linter.unusedVariables false
namespace Go.Proofs.Ytegkclehijdbiaa.V1
open Go.RowKit Go.Proofs.YtegkclehijdbiaaW.PrintWords Go.Proofs.YtegkclehijdbiaaW.PrintLast

/-- A value: its kind, its number, its text. -/
structure Vl where
  k : Int
  n : Int
  s : ByteArray
instance : Inhabited Vl := ⟨⟨0, 0, ByteArray.empty⟩⟩
abbrev Vl.agg (v : Vl) : Value := .agg #[.int .i64 v.k, .int .i64 v.n, .string v.s]
/-- It fits the machine. -/
structure Vl.Fit (v : Vl) : Prop where
  k0 : -9223372036854775808 ≤ v.k
  k1 : v.k ≤ 9223372036854775807
  n0 : -9223372036854775808 ≤ v.n
  n1 : v.n ≤ 9223372036854775807
  s1 : v.s.size ≤ 9223372036854775807
/-- A right value. -/
def okV (v : Vl) : Bool := (v.k == 1 && v.s.toList.isEmpty) || (v.k == 2 && v.n == 0 && decide ((v.s.size : Int) ≤ 200)) || (v.k == 3 && (v.n == 0 || v.n == 1) && v.s.toList.isEmpty)

/-- An element. -/
def el {α : Type} [Inhabited α] (l : List α) (k : Nat) : α := l.getD k default
theorem add_at (g o j : Nat) : (⟨g, o, none⟩ : Addr).add j = ⟨g, o + j, none⟩ := by unfold Addr.add; split <;> simp_all
/-- What lies in memory, one element behind the other, sz cells each. -/
def Rd {α : Type} [Inhabited α] (sz : Nat) (P : World → Nat → Nat → α → Prop) (w : World) (A : Option Addr) (n : Nat) (l : List α) : Prop :=
  l.length = n ∧ n ≤ 9223372036854775807 ∧ (0 < n → ∃ g o, A = some ⟨g, o, none⟩ ∧ ∀ i < n, P w g (o + i * sz) (el l i))
def atV (w : World) (g o : Nat) (v : Vl) : Prop := w.cell? ⟨g, o, none⟩ = some (.int .i64 v.k) ∧ w.cell? ⟨g, o + 1, none⟩ = some (.int .i64 v.n) ∧ w.cell? ⟨g, o + 2, none⟩ = some (.string v.s) ∧ v.Fit
theorem Rd.below {α : Type} [Inhabited α] {sz : Nat} {P : World → Nat → Nat → α → Prop} (hP : ∀ {w w' : World} {g o : Nat} {a : α}, P w g o a → Below w.heap.size w w' → P w' g o a) {w w' : World} {A : Option Addr} {n : Nat} {l : List α} (h : Rd sz P w A n l) (hb : Below w.heap.size w w') : Rd sz P w' A n l := by
  refine ⟨h.1, h.2.1, fun hn => ?_⟩
  obtain ⟨g, o, e, hc⟩ := h.2.2 hn
  exact ⟨g, o, e, fun i hi => hP (hc i hi) hb⟩
theorem Rd.at_ {α : Type} [Inhabited α] {sz : Nat} {P : World → Nat → Nat → α → Prop} {w : World} {A : Option Addr} {n : Nat} {l : List α} (h : Rd sz P w A n l) {k : Nat} (hk : k < n) : ∃ g o, A = some ⟨g, o, none⟩ ∧ P w g (o + k * sz) (el l k) ∧ (⟨g, o, none⟩ : Addr).add (k * sz) = ⟨g, o + k * sz, none⟩ := by
  obtain ⟨g, o, e, hc⟩ := h.2.2 (by omega)
  exact ⟨g, o, e, hc k hk, add_at g o _⟩
theorem atV.below {w w' : World} {g o : Nat} {v : Vl} (h : atV w g o v) (hb : Below w.heap.size w w') : atV w' g o v := ⟨pw_cell_below hb h.1, pw_cell_below hb h.2.1, pw_cell_below hb h.2.2.1, h.2.2.2⟩
abbrev RdV := Rd 3 atV
theorem rdV_below {w w' : World} {A : Option Addr} {n : Nat} {l : List Vl} (h : RdV w A n l) (hb : Below w.heap.size w w') : RdV w' A n l := Rd.below (P := atV) (fun h hb => atV.below h hb) h hb

theorem empty_no {s : ByteArray} (h : 0 < s.size) : s.toList.isEmpty = false := by
  rw [ByteArray.toList_eq, List.isEmpty_eq_false_iff]
  intro e
  have := data_length s
  rw [e] at this; simp at this; omega
theorem empty_yes {s : ByteArray} (h : s.size = 0) : s.toList.isEmpty = true := by
  rw [ByteArray.toList_eq, List.isEmpty_iff]
  exact List.eq_nil_of_length_eq_zero ((data_length s).trans h)

set_option maxHeartbeats 2000000 in
/-- The reference's Right. -/
theorem right75 (v : Vl) (w : World) (hf : v.Fit) : Calls Try.prog 75 #[v.agg] w fun e w' => e = .returned (.bool (okV v)) ∧ Below w.heap.size w w' := by
  obtain ⟨k, n, s⟩ := v
  obtain ⟨k0, k1, n0, n1, s1⟩ := hf
  dsimp only at k0 k1 n0 n1 s1
  have hv := Lib.hid (show okV ⟨k, n, s⟩ = ((k == 1 && s.toList.isEmpty) || (k == 2 && n == 0 && decide ((s.size : Int) ≤ 200)) || (k == 3 && (n == 0 || n == 1) && s.toList.isEmpty)) from rfl)
  unfold Vl.agg
  dsimp only
  generalize okV ⟨k, n, s⟩ = b at *
  go_enter Try.func75, Try.ntmps75
  go_wp2
  all_goals
    go_ret
    refine ⟨?_, by go_grown⟩
    rw [hv.out]
    first
      | (simp_all; done)
      | (simp_all; rw [Bool.eq_iff_iff]; simp <;> omega)

set_option maxHeartbeats 2000000 in
/-- What value.wrong tells. -/
theorem wrong106 (v : Vl) (w : World) (hf : v.Fit) : Calls Try.prog 106 #[v.agg] w fun e w' => e = .returned (.bool (!okV v)) ∧ Below w.heap.size w w' := by
  obtain ⟨k, n, s⟩ := v
  obtain ⟨k0, k1, n0, n1, s1⟩ := hf
  dsimp only at k0 k1 n0 n1 s1
  have hv := Lib.hid (show okV ⟨k, n, s⟩ = ((k == 1 && s.toList.isEmpty) || (k == 2 && n == 0 && decide ((s.size : Int) ≤ 200)) || (k == 3 && (n == 0 || n == 1) && s.toList.isEmpty)) from rfl)
  unfold Vl.agg
  dsimp only
  generalize okV ⟨k, n, s⟩ = b at *
  have e2 : (n / 2 != 0) = !(n == 0 || n == 1) := by
    rw [Bool.eq_iff_iff]; simp; omega
  have q0 : -9223372036854775808 ≤ n / 2 := by omega
  have q1 : n / 2 ≤ 9223372036854775807 := by omega
  go_enter Try.func106, Try.ntmps106
  go_wp2
  all_goals
    go_ret
    refine ⟨?_, by go_grown⟩
    rw [hv.out]
    first
      | (simp_all; done)
      | (simp_all; rw [Bool.eq_iff_iff]; simp <;> omega)
end Go.Proofs.Ytegkclehijdbiaa.V1
