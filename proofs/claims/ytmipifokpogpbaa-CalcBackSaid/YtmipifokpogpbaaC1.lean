import Derived.Test.YtmipifokpogpbaaWWords
import Derived.Test.YtmipifokpogpbaaWLast
import Derived.Test.YtmipifokpogpbaaProg
import Derived.Handy
import Derived.Lib.Hide
import Derived.Shelf.Spec.BitsCarry
set_option linter.unusedSimpArgs false
set_option linter.unusedVariables false
namespace Go.Proofs.Ytmipifokpogpbaa.C1
open Go.RowKit Go.Proofs.YtmipifokpogpbaaW.PrintWords Go.Proofs.YtmipifokpogpbaaW.PrintLast

theorem bcell {W w1 : World} (hb : Below W.heap.size W w1) : (∀ b o, b < W.heap.size → w1.cell? ⟨b, o, none⟩ = W.cell? ⟨b, o, none⟩) ∧ (∀ b o, b < W.heap.size → w1.frozen? ⟨b, o, none⟩ = W.frozen? ⟨b, o, none⟩) :=
  ⟨fun b o h => hb.cell (p := ⟨b, o, none⟩) h, fun b o h => hb.frozen (p := ⟨b, o, none⟩) h⟩
theorem heap_alloc (w : World) (o : Obj) (i : Nat) : (w.alloc o).heap[i]? = if i = w.heap.size then some o else w.heap[i]? := by
  show (w.heap.push o)[i]? = _
  rw [Array.getElem?_push]
theorem get_new (w : World) (o : Obj) (i : Nat) (h : i = w.heap.size) : (w.alloc o).heap[i]? = some o := by rw [heap_alloc, if_pos h]
theorem get_old (w : World) (o : Obj) (i : Nat) (h : i < w.heap.size) : (w.alloc o).heap[i]? = w.heap[i]? := by rw [heap_alloc, if_neg (by omega)]
theorem reads_set {w : World} {k : IntKind} {A : Option Addr} {n : Nat} {xs : List Int} (h : ReadsInt w k A n xs) {p : Addr} {u : Value} (z : Value) (hp : w.cell? p = some u) (hu : ∀ q, u ≠ .int k q) : ReadsInt (w.setCell p z) k A n xs := by
  refine ⟨h.1, h.2.1, fun hn => ?_⟩
  obtain ⟨ad, e, hc⟩ := h.2.2 hn
  refine ⟨ad, e, fun i hi => ?_⟩
  have h1 := hc i hi
  rw [World.cell?_setCell_other _ _ _ _ (fun e => by rw [e, h1] at hp; exact hu _ (Option.some.inj hp).symm)]
  exact h1
theorem rd_getD (xs : List Int) (i : Nat) : rd xs (i : Int) = xs.getD i 0 := by simp [rd]
/-- All numbers of a list are of 64 bits. -/
def In64 (l : List Int) : Prop := ∀ x ∈ l, -9223372036854775808 ≤ x ∧ x ≤ 9223372036854775807
theorem In64.get {l : List Int} (h : In64 l) (k : Nat) (hk : k < l.length) : -9223372036854775808 ≤ rd l k ∧ rd l k ≤ 9223372036854775807 := by
  rw [rd_getD, List.getD_eq_getElem?_getD, List.getElem?_eq_getElem hk]; exact h _ (List.getElem_mem hk)
/-- The sum of the first k, with a sign. -/
def sgnI (m : Bool) (x : Int) : Int := if m then -x else x
def sumI (l : List Int) (m : Bool) : Nat → Int
  | 0 => 0
  | k + 1 => sumI l m k + sgnI m (rd l k)
theorem sumI_bd {l : List Int} (h : In64 l) (m : Bool) (k : Nat) (hk : k ≤ l.length) : -(k * 9223372036854775808 : Int) ≤ sumI l m k ∧ sumI l m k ≤ k * 9223372036854775808 := by
  induction k with
  | zero => simp [sumI]
  | succ k ih =>
    have h1 := ih (by omega)
    have h2 := h.get k (by omega)
    simp only [sumI, sgnI]
    cases m <;> simp <;> omega

/-- Of the world nothing has turned but block g. -/
structure Keep1 (g : Nat) (w w' : World) : Prop where
  os : w'.os = w.os
  tape : w'.tape = w.tape
  output : w'.output = w.output
  size : w.heap.size ≤ w'.heap.size
  block : ∀ k, k < w.heap.size → k ≠ g → w'.heap[k]? = w.heap[k]?
theorem Keep1.refl (g : Nat) (w : World) : Keep1 g w w := ⟨rfl, rfl, rfl, Nat.le_refl _, fun _ _ _ => rfl⟩
theorem Keep1.trans {g : Nat} {a b c : World} (h : Keep1 g a b) (k : Keep1 g b c) : Keep1 g a c :=
  ⟨k.os.trans h.os, k.tape.trans h.tape, k.output.trans h.output, Nat.le_trans h.size k.size, fun i hi hg => (k.block i (Nat.lt_of_lt_of_le hi h.size) hg).trans (h.block i hi hg)⟩
theorem Keep1.below {g : Nat} {a b : World} (h : Below a.heap.size a b) : Keep1 g a b := ⟨h.os, h.tape, h.output, h.size, fun i hi _ => h.block i hi⟩
theorem Keep1.set_ {g : Nat} {a b : World} (h : Keep1 g a b) (j : Nat) (u : Value) : Keep1 g a (b.setCell ⟨g, j, none⟩ u) :=
  ⟨h.os, h.tape, h.output, by simpa [World.setCell] using h.size, fun i hi hg => (Below.heap_setCell b ⟨g, j, none⟩ u i hg).trans (h.block i hi hg)⟩
theorem Keep1.to_below {g : Nat} {B : Nat} {a b : World} (h : Keep1 g a b) (hg : B ≤ g) (hB : B ≤ a.heap.size) : Below B a b := ⟨h.os, h.tape, h.output, h.size, fun i hi => h.block i (by omega) (by omega)⟩

theorem add64 (x y c : Int) (hx : 0 ≤ x) (hy : 0 ≤ y) (hc0 : 0 ≤ c) (hc : c ≤ 1) (w : World) :
    (callFunc 48 #[.int .u64 x, .int .u64 y, .int .u64 c]).run Try.prog w =
      .ok (.value (.tuple #[.int .u64 ((x + y + c) % 18446744073709551616), .int .u64 ((x + y + c) / 18446744073709551616)])) w := by
  rw [run_callFunc_extern Try.func48 (by kernel_rfl) (by kernel_rfl) (by kernel_rfl) (e := add64Entry) (by kernel_rfl), run_add64 x y c hx hy hc0 hc]
  rfl
theorem sub64 (x y c : Int) (hx : 0 ≤ x) (hy : 0 ≤ y) (hc0 : 0 ≤ c) (hc : c ≤ 1) (hx' : x < 18446744073709551616) (hy' : y < 18446744073709551616) (w : World) :
    (callFunc 51 #[.int .u64 x, .int .u64 y, .int .u64 c]).run Try.prog w =
      .ok (.value (.tuple #[.int .u64 ((x - y - c) % 18446744073709551616), .int .u64 (if x < y + c then 1 else 0)])) w := by
  obtain ⟨x, rfl⟩ := Int.eq_ofNat_of_zero_le hx
  obtain ⟨y, rfl⟩ := Int.eq_ofNat_of_zero_le hy
  obtain ⟨c, rfl⟩ := Int.eq_ofNat_of_zero_le hc0
  rw [run_callFunc_extern Try.func51 (by kernel_rfl) (by kernel_rfl) (by kernel_rfl) (e := sub64Entry) (by kernel_rfl), run_sub64 x y c (by omega)]
  have e1 : (((x + 18446744073709551616 - y - c) % 18446744073709551616 : Nat) : Int) = ((x : Int) - y - c) % 18446744073709551616 := by omega
  have e2 : (((if x < y + c then 1 else 0 : Nat)) : Int) = if (x : Int) < y + c then 1 else 0 := by split <;> split <;> first | rfl | omega
  simp only [Result.andThen]
  rw [e1, e2]

/-- The two halves of a number of 128 bits. -/
def hiV (s : Int) : Int := (s / 18446744073709551616) % 18446744073709551616
def loV (s : Int) : Int := s % 18446744073709551616
theorem hi_bd (s : Int) : 0 ≤ hiV s ∧ hiV s < 18446744073709551616 := by unfold hiV; omega
theorem lo_bd (s : Int) : 0 ≤ loV s ∧ loV s < 18446744073709551616 := by unfold loV; omega
theorem lo_add (x y : Int) : (loV x + loV y) % 18446744073709551616 = loV (x + y) := by unfold loV; omega
theorem hi_add (x y : Int) : (hiV x + hiV y + (loV x + loV y) / 18446744073709551616) % 18446744073709551616 = hiV (x + y) := by unfold hiV loV; omega
theorem lo_sub (x y : Int) : (loV x - loV y) % 18446744073709551616 = loV (x - y) := by unfold loV; omega
theorem hi_sub (x y : Int) : (hiV x - hiV y - (if loV x < loV y then 1 else 0)) % 18446744073709551616 = hiV (x - y) := by unfold hiV loV; split <;> omega
theorem hi_of {n : Int} (h1 : -9223372036854775808 ≤ n) (h2 : n ≤ 9223372036854775807) : IntKind.u64.wrap (n / 9223372036854775808) = hiV n := by simp only [IntKind.wrap_u64]; unfold hiV; omega
theorem lo_of (n : Int) : IntKind.u64.wrap n = loV n := by simp only [IntKind.wrap_u64]; rfl

set_option maxHeartbeats 400000 in
theorem of_ (n : Int) (w : World) (h1 : -9223372036854775808 ≤ n) (h2 : n ≤ 9223372036854775807) :
    Calls Try.prog 42 #[.int .i64 n] w fun e w' => e = .returned (.agg #[.int .u64 (hiV n), .int .u64 (loV n)]) ∧ Below w.heap.size w w' := by
  have e1 := Lib.hid (hi_of h1 h2)
  have e2 := Lib.hid (lo_of n)
  go_enter Try.func42, Try.ntmps42
  go_wp2
  go_returns
  refine ⟨?_, by go_grown⟩
  rw [← e1.out, ← e2.out]

set_option maxHeartbeats 400000 in
theorem plus (x y : Int) (w : World) :
    Calls Try.prog 43 #[.agg #[.int .u64 (hiV x), .int .u64 (loV x)], .agg #[.int .u64 (hiV y), .int .u64 (loV y)]] w fun e w' => e = .returned (.agg #[.int .u64 (hiV (x + y)), .int .u64 (loV (x + y))]) ∧ Below w.heap.size w w' := by
  have hh := Lib.hid (hi_add x y)
  have hl := Lib.hid (lo_add x y)
  obtain ⟨h1, ha⟩ := hi_bd x
  obtain ⟨h2, hb⟩ := lo_bd x
  obtain ⟨h3, hc⟩ := hi_bd y
  obtain ⟨h4, hd⟩ := lo_bd y
  have c0 : 0 ≤ (loV x + loV y) / 18446744073709551616 := by omega
  have c1 : (loV x + loV y) / 18446744073709551616 ≤ 1 := by omega
  generalize hiV x = ah at *
  generalize loV x = al at *
  generalize hiV y = bh at *
  generalize loV y = bl at *
  go_enter Try.func43, Try.ntmps43
  go_wp2_with (first | rw [add64 _ _ _ h2 h4 (Int.le_refl 0) (by decide)] | rw [add64 _ _ _ h1 h3 c0 c1])
  go_returns
  refine ⟨?_, by go_grown⟩
  rw [hh.out, hl.out]

set_option maxHeartbeats 400000 in
theorem minus (x y : Int) (w : World) :
    Calls Try.prog 41 #[.agg #[.int .u64 (hiV x), .int .u64 (loV x)], .agg #[.int .u64 (hiV y), .int .u64 (loV y)]] w fun e w' => e = .returned (.agg #[.int .u64 (hiV (x - y)), .int .u64 (loV (x - y))]) ∧ Below w.heap.size w w' := by
  have hh := hi_sub x y
  have hl := Lib.hid (lo_sub x y)
  obtain ⟨h1, ha⟩ := hi_bd x
  obtain ⟨h2, hb⟩ := lo_bd x
  obtain ⟨h3, hc⟩ := hi_bd y
  obtain ⟨h4, hd⟩ := lo_bd y
  generalize hiV x = ah at *
  generalize loV x = al at *
  generalize hiV y = bh at *
  generalize loV y = bl at *
  by_cases hlt : al < bl
  · rw [if_pos hlt] at hh
    have Hh := Lib.hid hh
    clear hh
    have k : al < bl + 0 := by omega
    go_enter Try.func41, Try.ntmps41
    go_wp2_with (first | (rw [sub64 _ _ _ h2 h4 (Int.le_refl 0) (by decide) hb hd, if_pos k]) | rw [sub64 _ _ _ h1 h3 (by decide) (Int.le_refl 1) ha hc])
    all_goals
      go_returns
      refine ⟨?_, by go_grown⟩
      have e1 := Hh.out
      have e2 := hl.out
      (try simp only [Int.sub_zero] at e1)
      rw [e1, e2]
  · rw [if_neg hlt] at hh
    have Hh := Lib.hid hh
    clear hh
    have k : ¬ al < bl + 0 := by omega
    go_enter Try.func41, Try.ntmps41
    go_wp2_with (first | (rw [sub64 _ _ _ h2 h4 (Int.le_refl 0) (by decide) hb hd, if_neg k]) | rw [sub64 _ _ _ h1 h3 (Int.le_refl 0) (by decide) ha hc])
    all_goals
      go_returns
      refine ⟨?_, by go_grown⟩
      have e1 := Hh.out
      have e2 := hl.out
      (try simp only [Int.sub_zero] at e1)
      rw [e1, e2]
end Go.Proofs.Ytmipifokpogpbaa.C1
