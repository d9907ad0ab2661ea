import Derived.Test.YtegkclehijdbiaaMP
import Derived.Test.YtegkclehijdbiaaMC
import Derived.Test.YtegkclehijdbiaaAW
set_option linter.unusedVariables false
set_option linter.unusedSimpArgs false
namespace Go.Proofs.Ytegkclehijdbiaa.S1
open Go.RowKit Go.Proofs.Ytegkclehijdbiaa.PCodecTakes Go.Proofs.Ytegkclehijdbiaa.V1 Go.Proofs.Ytegkclehijdbiaa.V3 Go.Proofs.Ytegkclehijdbiaa.N1 Go.Proofs.Ytegkclehijdbiaa.N2 Go.Proofs.Ytegkclehijdbiaa.N3 Go.Proofs.Ytegkclehijdbiaa.CA Go.Proofs.Ytegkclehijdbiaa.CB Go.Proofs.Ytegkclehijdbiaa.CC Go.Proofs.Ytegkclehijdbiaa.CD Go.Proofs.Ytegkclehijdbiaa.CE Go.Proofs.Ytegkclehijdbiaa.CF Go.Proofs.Ytegkclehijdbiaa.CG Go.Proofs.Ytegkclehijdbiaa.CH Go.Proofs.Ytegkclehijdbiaa.PE Go.Proofs.Ytegkclehijdbiaa.PF Go.Proofs.Ytegkclehijdbiaa.PG Go.Proofs.Ytegkclehijdbiaa.PH
open Go.Proofs.YtegkclehijdbiaaW.PrintLast hiding takeB
open Go.Proofs.YtegkclehijdbiaaW.PrintWords hiding Ev

/-- Reader at g and part at pg in one state. -/
structure Bo2 (w0 w : World) (g pg : Nat) (st : Option (List UInt8)) : Prop where
  r : Rs w g st
  p : Pt w0 w pg st
  lt : g < pg
  le : w0.heap.size ≤ g
theorem Pt.lt {w0 w : World} {g : Nat} {st : Option (List UInt8)} (h : Pt w0 w g st) : g < w.heap.size := by
  obtain ⟨u, b, hI, _⟩ := h
  exact IsS77.lt hI
theorem Pt.keep {w0 w w' : World} {g pg : Nat} {st : Option (List UInt8)} (h : Pt w0 w pg st) (k : Keep1 g w w') (hne : pg ≠ g) (hle : w0.heap.size ≤ g) : Pt w0 w' pg st := by
  obtain ⟨u, b, hI, hP, hB⟩ := h
  have hlt := IsS77.lt hI
  exact ⟨u, b, ⟨(k.block _ hlt hne).trans hI.1, hI.2⟩, hP, hB.trans (k.to_below hle hB.size)⟩
theorem Rs.keep {w w' : World} {g pg : Nat} {st : Option (List UInt8)} (h : Rs w g st) (k : Keep1 pg w w') (hlt : g < pg) : Rs w' g st := Rs.low h (k.to_below hlt (by have := h.lt; omega))
theorem Bo2.below {w0 w w' : World} {g pg : Nat} {st : Option (List UInt8)} (h : Bo2 w0 w g pg st) (hb : Below w.heap.size w w') : Bo2 w0 w' g pg st :=
  ⟨h.r.below hb, Pt.keep h.p (Keep1.below (g := g) hb) (by have := h.lt; omega) h.le, h.lt, h.le⟩
/-- What the law's same leaves. -/
structure Kp (g pg : Nat) (w w' : World) : Prop where
  os : w'.os = w.os
  tape : w'.tape = w.tape
  output : w'.output = w.output
  size : w.heap.size ≤ w'.heap.size
  block : ∀ k, k < w.heap.size → k ≠ g → k ≠ pg → w'.heap[k]? = w.heap[k]?
theorem Kp.of1 {g pg : Nat} {w w' : World} (h : Keep1 g w w') : Kp g pg w w' := ⟨h.os, h.tape, h.output, h.size, fun k hk h1 _ => h.block k hk h1⟩
theorem Kp.of2 {g pg : Nat} {w w' : World} (h : Keep1 pg w w') : Kp g pg w w' := ⟨h.os, h.tape, h.output, h.size, fun k hk _ h2 => h.block k hk h2⟩
theorem Kp.trans {g pg : Nat} {a b c : World} (h : Kp g pg a b) (k : Kp g pg b c) : Kp g pg a c :=
  ⟨k.os.trans h.os, k.tape.trans h.tape, k.output.trans h.output, Nat.le_trans h.size k.size, fun i hi h1 h2 => (k.block i (Nat.lt_of_lt_of_le hi h.size) h1 h2).trans (h.block i hi h1 h2)⟩
theorem Kp.cell {g pg : Nat} {a b : World} (h : Kp g pg a b) {p : Addr} {v : Value} (hc : a.cell? p = some v) (h1 : p.block ≠ g) (h2 : p.block ≠ pg) : b.cell? p = some v := by
  have hl := World.block_lt_of_cell? a p hc
  have := h.block p.block hl h1 h2
  unfold World.cell? at hc ⊢
  rw [this]; exact hc
theorem Kp.to_below {g pg B : Nat} {a b : World} (h : Kp g pg a b) (h1 : B ≤ g) (h2 : B ≤ pg) (hB : B ≤ a.heap.size) : Below B a b := ⟨h.os, h.tape, h.output, h.size, fun i hi => h.block i (by omega) (by omega) (by omega)⟩
/-- Both have stepped. -/
theorem Bo2.step {w0 w w1 w2 : World} {g pg : Nat} {st s1 : Option (List UInt8)} (h : Bo2 w0 w g pg st) (hr : Rs w1 g s1) (k1 : Keep1 g w w1) (hp : Pt w0 w2 pg s1) (k2 : Keep1 pg w1 w2) : Bo2 w0 w2 g pg s1 ∧ Kp g pg w w2 :=
  ⟨⟨Rs.keep hr k2 h.lt, hp, h.lt, h.le⟩, (Kp.of1 k1).trans (Kp.of2 k2)⟩
def Sm (w0 w : World) (g pg : Nat) (e : Ending) (w' : World) : Prop := e = .returned (.bool true) ∧ (∃ st', Bo2 w0 w' g pg st' ∧ ∀ l, st' = some l → l.length ≤ 1000000) ∧ Kp g pg w w'
end Go.Proofs.Ytegkclehijdbiaa.S1
