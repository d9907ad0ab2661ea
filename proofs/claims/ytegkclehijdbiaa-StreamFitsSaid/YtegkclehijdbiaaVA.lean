import Derived.Test.YtegkclehijdbiaaV9
set_option linter.unusedSimpArgs false
set_option linter.unusedVariables false
namespace Go.Proofs.Ytegkclehijdbiaa.VA
open Go.RowKit Go.Proofs.YtegkclehijdbiaaW.PrintWords Go.Proofs.YtegkclehijdbiaaW.PrintLast Go.Proofs.Ytegkclehijdbiaa.V1 Go.Proofs.Ytegkclehijdbiaa.V2 Go.Proofs.Ytegkclehijdbiaa.V3 Go.Proofs.Ytegkclehijdbiaa.V4 Go.Proofs.Ytegkclehijdbiaa.V5 Go.Proofs.Ytegkclehijdbiaa.V6 Go.Proofs.Ytegkclehijdbiaa.V8 Go.Proofs.Ytegkclehijdbiaa.V9

/-- A border at block g. -/
structure Bo (w : World) (g : Nat) (nm : ByteArray) (cs : List Cl) (mark : Int) : Prop where
  row : ∃ B n d, w.heap[g]? = some (.cells #[.string nm, .slice B n d, .int .i64 mark] 115 (0, 0)) ∧ RdC w B n cs ∧ n ≤ d ∧ d ≤ 9223372036854775807
/-- What NewBorder answers. -/
def NbR (w : World) (nm : ByteArray) (cs : List Cl) (e : Ending) (w' : World) : Prop :=
  (rightB nm cs = false ∧ e = .returned (.tuple #[.pointer none, .int .i64 1]) ∧ Below w.heap.size w w') ∨
  (rightB nm cs = true ∧ ∃ g, e = .returned (.tuple #[.pointer (some ⟨g, 0, none⟩), .int .i64 0]) ∧ w.heap.size ≤ g ∧ Bo w' g nm cs 0 ∧ Below w.heap.size w w')

set_option maxHeartbeats 1000000 in
theorem border14 (nm : ByteArray) (A : Option Addr) (n c : Nat) (cs : List Cl) (w : World) (hnm : nm.size ≤ 9223372036854775807) (hc : RdC w A n cs) (hn : n ≤ 1000000) : Calls Try.prog 14 #[.agg #[.string nm, .slice A n c]] w (NbR w nm cs) := by
  have P0 : Below w.heap.size w (w.alloc (.cells #[.string nm, .slice A n c] 24)) := by go_grown
  have hc := rdC_below hc P0
  go_enter Try.func14, Try.ntmps14
  go_wp2_with fail
  generalize w.alloc (.cells #[.string nm, .slice A n c] 24) = V at *
  (with_reducible refine (open64 nm A n c cs _ hnm hc hn).mono ?_)
  rintro e W1 (⟨hr, rfl, hB⟩ | ⟨hr, B, d, rfl, rc, nd, dm, hB⟩)
  · have P1 := P0.trans (hB.mono P0.size)
    go_wp2
    go_ret2
    exact .inl ⟨hr, rfl, P1.alloc P1.size _⟩
  · have P1 := P0.trans (hB.mono P0.size)
    go_wp2
    go_ret2
    have P2 : Below W1.heap.size W1 ((W1.alloc (.cells #[.string nm, .slice B n d] 111)).alloc (.cells #[.string nm, .slice B n d, .int .i64 0] 115)) := by go_grown
    exact .inr ⟨hr, W1.heap.size + 1, rfl, by have := P1.size; omega, ⟨B, n, d, get_new _ _ _ (by simp), rdC_below rc P2, nd, dm⟩, P1.trans (P2.mono P1.size)⟩

theorem Bo.below {w w' : World} {g : Nat} {nm : ByteArray} {cs : List Cl} {mark : Int} (h : Bo w g nm cs mark) (hb : Below w.heap.size w w') : Bo w' g nm cs mark := by
  obtain ⟨B, n, d, e, rc, h1, h2⟩ := h.row
  exact ⟨B, n, d, (hb.block _ (blk_lt e)).trans e, rdC_below rc hb, h1, h2⟩
theorem Bo.lt {w : World} {g : Nat} {nm : ByteArray} {cs : List Cl} {mark : Int} (h : Bo w g nm cs mark) : g < w.heap.size := by
  obtain ⟨B, n, d, e, _⟩ := h.row
  exact blk_lt e
set_option maxHeartbeats 400000 in
theorem name16 (g : Nat) (nm : ByteArray) (cs : List Cl) (mark : Int) (w : World) (h : Bo w g nm cs mark) : Calls Try.prog 16 #[.pointer (some ⟨g, 0, none⟩)] w fun e w' => e = .returned (.string nm) ∧ w = w' := by
  obtain ⟨B, n, d, e, _⟩ := h.row
  have f0 : w.cell? ⟨g, 0, none⟩ = some (.string nm) := (blk_cell e 0).trans rfl
  clear e
  go_enter Try.func16, Try.ntmps16
  go_wp2
  go_ret
  exact ⟨rfl, rfl⟩
set_option maxHeartbeats 400000 in
theorem mark20 (g : Nat) (nm : ByteArray) (cs : List Cl) (mark : Int) (w : World) (h : Bo w g nm cs mark) : Calls Try.prog 20 #[.pointer (some ⟨g, 0, none⟩)] w fun e w' => e = .returned (.int .i64 mark) ∧ w = w' := by
  obtain ⟨B, n, d, e, _⟩ := h.row
  have f0 : w.cell? ⟨g, 2, none⟩ = some (.int .i64 mark) := (blk_cell e 2).trans rfl
  clear e
  go_enter Try.func20, Try.ntmps20
  go_wp2
  go_ret
  exact ⟨rfl, rfl⟩
/-- The cells of columns are not the border's. -/
theorem rdC_mark {w : World} {g n : Nat} {B B' : Option Addr} {n' d' : Nat} {cs : List Cl} {a : ByteArray} {mark : Int} (h : RdC w B n cs) (hg : w.heap[g]? = some (.cells #[.string a, .slice B' n' d', .int .i64 mark] 115 (0, 0))) (u : Value) : RdC (w.setCell ⟨g, 2, none⟩ u) B n cs := by
  refine ⟨h.1, h.2.1, fun hn => ?_⟩
  obtain ⟨g', o, e, hc⟩ := h.2.2 hn
  refine ⟨g', o, e, fun i hi => ?_⟩
  obtain ⟨c0, c1, hf⟩ := hc i hi
  have hne : g ≠ g' := by
    rintro rfl
    rw [blk_cell hg] at c0 c1
    have h1 := (Array.getElem?_eq_some_iff.1 c1).1
    simp at h1
    rcases (show o + i * 2 = 0 ∨ o + i * 2 = 1 by omega) with h0 | h0
    · rw [h0] at c1; simp at c1
    · rw [h0] at c0; simp at c0
  exact ⟨(World.cell?_setCell_far _ _ _ _ hne).trans c0, (World.cell?_setCell_far _ _ _ _ hne).trans c1, hf⟩
theorem Bo.set {w : World} {g : Nat} {nm : ByteArray} {cs : List Cl} {mark : Int} (h : Bo w g nm cs mark) (m : Int) : Bo (w.setCell ⟨g, 2, none⟩ (.int .i64 m)) g nm cs m := by
  obtain ⟨B, n, d, e, rc, h1, h2⟩ := h.row
  exact ⟨B, n, d, blk_put e 2 _ rfl, rdC_mark rc e _, h1, h2⟩
/-- The world but for the border's mark. -/
def StR (w : World) (g : Nat) (nm : ByteArray) (cs : List Cl) (r m : Int) (e : Ending) (w' : World) : Prop := e = .returned (.int .i64 r) ∧ Bo w' g nm cs m ∧ ∀ b, b ≤ g → b ≤ w.heap.size → Below b w w'
set_option maxHeartbeats 400000 in
theorem set17 (g : Nat) (nm : ByteArray) (cs : List Cl) (mark m : Int) (w : World) (h : Bo w g nm cs mark) : Calls Try.prog 17 #[.pointer (some ⟨g, 0, none⟩), .int .i64 m] w (StR w g nm cs (if m < 0 then 1 else 0) (if m < 0 then mark else m)) := by
  have hs := h.set m
  obtain ⟨B, n, d, e, _⟩ := h.row
  have f0 : w.cell? ⟨g, 2, none⟩ = some (.int .i64 mark) := (blk_cell e 2).trans rfl
  have f1 := blk_frozen e
  clear e
  by_cases hm : m < 0
  · have H := Lib.hid h
    rw [if_pos hm, if_pos hm]
    clear h hs
    go_enter Try.func17, Try.ntmps17
    go_wp2
    go_ret
    exact ⟨rfl, H.out, fun b _ _ => (Below.refl _ _)⟩
  · have H := Lib.hid hs
    rw [if_neg hm, if_neg hm]
    clear h hs
    go_enter Try.func17, Try.ntmps17
    go_wp2
    go_ret
    exact ⟨rfl, H.out, fun b hb hb2 => (Below.refl _ _).setCell hb _⟩
end Go.Proofs.Ytegkclehijdbiaa.VA
