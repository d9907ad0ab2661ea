import Derived.Test.YtegkclehijdbiaaMA
import Derived.ChangeSame
import Derived.ChangeArms
import Derived.Deep.Slices
import Derived.Deep.Strs
import Derived.OpenShut
import Derived.Lib.SmallJoins
set_option linter.unusedSimpArgs false
set_option linter.unusedVariables false
namespace Go.Proofs.Ytegkclehijdbiaa.OP
open Go.ChangeShapes Go.WideShapes Go.ChangeAt Go.RowKit Go.Proofs.YtegkclehijdbiaaW.PrintWords Go.Proofs.YtegkclehijdbiaaW.PrintLast Go.Proofs.Ytegkclehijdbiaa.V1 Go.Proofs.Ytegkclehijdbiaa.V3 Go.Proofs.Ytegkclehijdbiaa.VD
open Go.ChangeMaps (open_string shut_string)

theorem wf64 {a : Int} (h : (Lit.int .i64 a).wf = true) : -9223372036854775808 ≤ a ∧ a ≤ 9223372036854775807 := by
  simp only [Lit.wf] at h
  simp only [Bool.and_eq_true, decide_eq_true_eq] at h
  have e1 : IntKind.i64.min = -9223372036854775808 := by decide
  have e2 : IntKind.i64.max = 9223372036854775807 := by decide
  omega
theorem spot_none {w : World} {a : Addr} {v : Value} (h : w.cell? a = some v) : a.spot = none := by
  unfold World.cell? at h
  split at h
  · split at h
    · cases h
    · rename_i hs; simpa using hs
  · cases h
variable {H : Type} {enc : TypeId × Value → H} {W : World}
noncomputable abbrev Tr (enc : TypeId × Value → H) (W : World) (fuel : Nat) (t : TypeId) (cs : List Value) := DataW.trod enc Try.prog W 0 (fun _ => true) true fuel t cs
/-- A slice, opened by its elements. -/
theorem open_rd {α : Type} [Inhabited α] {sz : Nat} {P : World → Nat → Nat → α → Prop} {T e : TypeId} (ht : Try.prog.underlying T = some (.slice e)) (hc : Try.prog.cellsOf e = sz) (hs : 0 < sz)
    (hel : ∀ fuel cs x g o, Tr enc W fuel e cs = some x → cs.length = sz → (∀ j v, cs[j]? = some v → W.cell? ⟨g, o + j, none⟩ = some v) → ∃ a, P W g o a)
    {fuel : Nat} {cs : List Value} {x : DataW H × List MemPlace} (h : Tr enc W fuel T cs = some x) :
    ∃ A len cap l, cs = [.slice A len cap] ∧ Rd sz P W A len l ∧ len ≤ cap ∧ cap ≤ 9223372036854775807 := by
  rcases Deep.open_slice ht h with ⟨rfl, _⟩ | ⟨a, len, cap, m, n, D, Pl, rfl, _, hl, hm, hmm, _, hx⟩
  · exact ⟨none, 0, 0, [], rfl, ⟨rfl, by omega, fun h => absurd h (by omega)⟩, by omega, by omega⟩
  · simp only [if_true] at hmm
    subst hmm
    have hm' : m ≤ 9223372036854775807 := hm
    rw [hc] at hx
    by_cases h0 : len = 0
    · subst h0
      exact ⟨some a, 0, m, [], rfl, ⟨rfl, by omega, fun h => absurd h (by omega)⟩, hl, hm'⟩
    have hsp : a.spot = none := by
      obtain ⟨cs', h1, h2⟩ := hx 0 (by omega)
      obtain ⟨_, h3, h4⟩ := World.cells?_some h1
      have h5 := h4 0 (by omega)
      rw [List.getElem?_eq_getElem (by omega)] at h5
      have := spot_none h5
      simpa [Addr.add] using this
    obtain ⟨g, o, sp⟩ := a
    subst hsp
    have key : ∀ i : Nat, ∃ v : α, i < len → P W g (o + i * sz) v := by
      intro i
      by_cases hi : i < len
      · obtain ⟨cs', h1, h2⟩ := hx i (by omega)
        obtain ⟨_, h3, h4⟩ := World.cells?_some h1
        obtain ⟨v, hv⟩ := hel _ _ _ g (o + i * sz) h2 h3 (fun j v hj => by
          have hj' : j < sz := by
            rcases Nat.lt_or_ge j cs'.length with h | h
            · omega
            · rw [List.getElem?_eq_none h] at hj; cases hj
          have := h4 j hj'
          rw [V1.add_at, V1.add_at] at this
          rw [this, hj])
        exact ⟨v, fun _ => hv⟩
      · exact ⟨default, fun h => absurd h hi⟩
    obtain ⟨f, hf⟩ := Classical.axiomOfChoice key
    refine ⟨_, len, m, (List.range len).map f, rfl, ⟨by simp, by omega, fun _ => ⟨g, o, rfl, fun i hi => ?_⟩⟩, hl, hm'⟩
    have e : el ((List.range len).map f) i = f i := by simp [el, List.getD, hi]
    rw [e]; exact hf i hi
theorem k2 : Try.prog.cellsOf 2 = 1 := by kernel_rfl
theorem k3 : Try.prog.cellsOf 3 = 1 := by kernel_rfl
theorem k9 : Try.prog.cellsOf 9 = 1 := by kernel_rfl
theorem k22 : Try.prog.cellsOf 22 = 1 := by kernel_rfl
theorem k24 : Try.prog.cellsOf 24 = 2 := by kernel_rfl
theorem k36 : Try.prog.cellsOf 36 = 1 := by kernel_rfl
theorem k38 : Try.prog.cellsOf 38 = 2 := by kernel_rfl
theorem k48 : Try.prog.cellsOf 48 = 1 := by kernel_rfl
theorem k56 : Try.prog.cellsOf 56 = 3 := by kernel_rfl
theorem k80 : Try.prog.cellsOf 80 = 3 := by kernel_rfl
theorem k90 : Try.prog.cellsOf 90 = 3 := by kernel_rfl
theorem k109 : Try.prog.cellsOf 109 = 2 := by kernel_rfl
theorem elemV (fuel : Nat) (cs : List Value) (x : DataW H × List MemPlace) (g o : Nat) (h : Tr enc W fuel 56 cs = some x) (hl : cs.length = 3) (hc : ∀ j v, cs[j]? = some v → W.cell? ⟨g, o + j, none⟩ = some v) : ∃ a, atV W g o a := by
  match cs, hl with
  | [v0, v1, v2], _ =>
    obtain ⟨y0, y1, y2, n, _, _, t0, t1, t2⟩ := Deep.trod_struct3 Try.underlying56 h
    simp only [k2, k3, k9, List.drop_zero, List.drop_succ_cons, List.take_succ_cons, List.take_zero] at t0 t1 t2
    obtain ⟨a, e0, _, w0⟩ := DataW.trod_int Try.underlying3 t0
    obtain ⟨b, e1, _, w1⟩ := DataW.trod_int Try.underlying2 t1
    obtain ⟨s, e2, _, w2⟩ := DataW.trod_string Try.underlying9 t2
    simp only [List.cons.injEq, and_true] at e0 e1 e2
    subst e0 e1 e2
    have c0 := hc 0 _ rfl
    have c1 := hc 1 _ rfl
    have c2 := hc 2 _ rfl
    exact ⟨⟨a, b, s⟩, c0, c1, c2, (wf64 w0).1, (wf64 w0).2, (wf64 w1).1, (wf64 w1).2, w2⟩
theorem elemC (fuel : Nat) (cs : List Value) (x : DataW H × List MemPlace) (g o : Nat) (h : Tr enc W fuel 109 cs = some x) (hl : cs.length = 2) (hc : ∀ j v, cs[j]? = some v → W.cell? ⟨g, o + j, none⟩ = some v) : ∃ a, atC W g o a := by
  match cs, hl with
  | [v0, v1], _ =>
    obtain ⟨y0, y1, n, _, _, t0, t1⟩ := trod_struct2 Try.underlying109 h
    simp only [k3, k9, List.drop_zero, List.drop_succ_cons, List.take_succ_cons, List.take_zero] at t0 t1
    obtain ⟨s, e0, _, w0⟩ := DataW.trod_string Try.underlying9 t0
    obtain ⟨a, e1, _, w1⟩ := DataW.trod_int Try.underlying3 t1
    simp only [List.cons.injEq, and_true] at e0 e1
    subst e0 e1
    have c0 := hc 0 _ rfl
    have c1 := hc 1 _ rfl
    exact ⟨⟨s, a⟩, c0, c1, (wf64 w1).1, (wf64 w1).2, w0⟩
theorem open_vals {fuel : Nat} {cs : List Value} {x : DataW H × List MemPlace} (h : Tr enc W fuel 48 cs = some x) : ∃ A len cap l, cs = [.slice A len cap] ∧ RdV W A len l ∧ len ≤ cap ∧ cap ≤ 9223372036854775807 :=
  open_rd Try.underlying48 k56 (by omega) elemV h
theorem open_cols {fuel : Nat} {cs : List Value} {x : DataW H × List MemPlace} (h : Tr enc W fuel 22 cs = some x) : ∃ A len cap l, cs = [.slice A len cap] ∧ RdC W A len l ∧ len ≤ cap ∧ cap ≤ 9223372036854775807 :=
  open_rd Try.underlying22 k109 (by omega) elemC h
theorem elemR (fuel : Nat) (cs : List Value) (x : DataW H × List MemPlace) (g o : Nat) (h : Tr enc W fuel 48 cs = some x) (hl : cs.length = 1) (hc : ∀ j v, cs[j]? = some v → W.cell? ⟨g, o + j, none⟩ = some v) : ∃ a, atR W g o a := by
  obtain ⟨A, len, cap, l, rfl, h1, h2, h3⟩ := open_vals h
  exact ⟨l, A, len, cap, hc 0 _ rfl, h1, h2, h3⟩
theorem open_rows {fuel : Nat} {cs : List Value} {x : DataW H × List MemPlace} (h : Tr enc W fuel 36 cs = some x) : ∃ A len cap l, cs = [.slice A len cap] ∧ RdR W A len l ∧ len ≤ cap ∧ cap ≤ 9223372036854775807 :=
  open_rd Try.underlying36 k48 (by omega) elemR h
theorem elemB (fuel : Nat) (cs : List Value) (x : DataW H × List MemPlace) (g o : Nat) (h : Tr enc W fuel 38 cs = some x) (hl : cs.length = 2) (hc : ∀ j v, cs[j]? = some v → W.cell? ⟨g, o + j, none⟩ = some v) : ∃ a, atB W g o a := by
  match cs, hl with
  | [v0, v1], _ =>
    obtain ⟨y0, y1, n, _, _, t0, t1⟩ := trod_struct2 Try.underlying38 h
    simp only [k3, k36, List.drop_zero, List.drop_succ_cons, List.take_succ_cons, List.take_zero] at t0 t1
    obtain ⟨a, e0, _, w0⟩ := DataW.trod_int Try.underlying3 t0
    obtain ⟨A, len, cap, l, e1, h1, h2, h3⟩ := open_rows t1
    simp only [List.cons.injEq, and_true] at e0 e1
    subst e0 e1
    exact ⟨⟨a, l⟩, A, len, cap, hc 0 _ rfl, hc 1 _ rfl, h1, h2, h3, (wf64 w0).1, (wf64 w0).2⟩
theorem open_batches {fuel : Nat} {cs : List Value} {x : DataW H × List MemPlace} (h : Tr enc W fuel 25 cs = some x) : ∃ A len cap l, cs = [.slice A len cap] ∧ RdB W A len l ∧ len ≤ cap ∧ cap ≤ 9223372036854775807 :=
  open_rd Try.underlying25 k38 (by omega) elemB h
/-- What lies at a whole number, at a text. -/
def atI (w : World) (g o : Nat) (a : Int) : Prop := w.cell? ⟨g, o, none⟩ = some (.int .i64 a) ∧ -9223372036854775808 ≤ a ∧ a ≤ 9223372036854775807
def atS (w : World) (g o : Nat) (s : ByteArray) : Prop := w.cell? ⟨g, o, none⟩ = some (.string s) ∧ s.size ≤ 9223372036854775807
instance : Inhabited ByteArray := ⟨⟨#[]⟩⟩
theorem atI.below {w w' : World} {g o : Nat} {v : Int} (h : atI w g o v) (hb : Below w.heap.size w w') : atI w' g o v := ⟨pw_cell_below hb h.1, h.2⟩
theorem atS.below {w w' : World} {g o : Nat} {v : ByteArray} (h : atS w g o v) (hb : Below w.heap.size w w') : atS w' g o v := ⟨pw_cell_below hb h.1, h.2⟩
abbrev RdI := Rd 1 atI
abbrev RdS := Rd 1 atS
theorem rdI_below {w w' : World} {A : Option Addr} {n : Nat} {l : List Int} (h : RdI w A n l) (hb : Below w.heap.size w w') : RdI w' A n l := Rd.below (P := atI) (fun h hb => atI.below h hb) h hb
theorem rdS_below {w w' : World} {A : Option Addr} {n : Nat} {l : List ByteArray} (h : RdS w A n l) (hb : Below w.heap.size w w') : RdS w' A n l := Rd.below (P := atS) (fun h hb => atS.below h hb) h hb
theorem elemI (fuel : Nat) (cs : List Value) (x : DataW H × List MemPlace) (g o : Nat) (h : Tr enc W fuel 3 cs = some x) (hl : cs.length = 1) (hc : ∀ j v, cs[j]? = some v → W.cell? ⟨g, o + j, none⟩ = some v) : ∃ a, atI W g o a := by
  obtain ⟨a, rfl, _, w0⟩ := DataW.trod_int Try.underlying3 h
  exact ⟨a, hc 0 _ rfl, (wf64 w0).1, (wf64 w0).2⟩
theorem elemJ (fuel : Nat) (cs : List Value) (x : DataW H × List MemPlace) (g o : Nat) (h : Tr enc W fuel 2 cs = some x) (hl : cs.length = 1) (hc : ∀ j v, cs[j]? = some v → W.cell? ⟨g, o + j, none⟩ = some v) : ∃ a, atI W g o a := by
  obtain ⟨a, rfl, _, w0⟩ := DataW.trod_int Try.underlying2 h
  exact ⟨a, hc 0 _ rfl, (wf64 w0).1, (wf64 w0).2⟩
theorem elemS (fuel : Nat) (cs : List Value) (x : DataW H × List MemPlace) (g o : Nat) (h : Tr enc W fuel 9 cs = some x) (hl : cs.length = 1) (hc : ∀ j v, cs[j]? = some v → W.cell? ⟨g, o + j, none⟩ = some v) : ∃ a, atS W g o a := by
  obtain ⟨s, rfl, _, w0⟩ := DataW.trod_string Try.underlying9 h
  exact ⟨s, hc 0 _ rfl, w0⟩
theorem open_ints {fuel : Nat} {cs : List Value} {x : DataW H × List MemPlace} (h : Tr enc W fuel 45 cs = some x) : ∃ A len cap l, cs = [.slice A len cap] ∧ RdI W A len l ∧ len ≤ cap ∧ cap ≤ 9223372036854775807 :=
  open_rd Try.underlying45 k3 (by omega) elemI h
theorem open_i64s {fuel : Nat} {cs : List Value} {x : DataW H × List MemPlace} (h : Tr enc W fuel 46 cs = some x) : ∃ A len cap l, cs = [.slice A len cap] ∧ RdI W A len l ∧ len ≤ cap ∧ cap ≤ 9223372036854775807 :=
  open_rd Try.underlying46 k2 (by omega) elemJ h
theorem open_strs {fuel : Nat} {cs : List Value} {x : DataW H × List MemPlace} (h : Tr enc W fuel 47 cs = some x) : ∃ A len cap l, cs = [.slice A len cap] ∧ RdS W A len l ∧ len ≤ cap ∧ cap ≤ 9223372036854775807 :=
  open_rd Try.underlying47 k9 (by omega) elemS h
set_option maxRecDepth 100000 in
/-- A stream by value. -/
theorem open_stream {r : Reach} {b0 : Nat} {v : Value} {d : DataW H} {p : List MemPlace} (hv : Value.okWide Try.prog W r b0 24 v) (h : DataW.Trod enc Try.prog W 0 (fun _ => true) true 24 v d p) :
    ∃ nm A n c l, v = .agg #[.string nm, .slice A n c] ∧ nm.size ≤ 9223372036854775807 ∧ RdC W A n l ∧ n ≤ c ∧ c ≤ 9223372036854775807 := by
  obtain ⟨v0, v1, y0, y1, n, rfl, _, _, t0, t1⟩ := Go.Joins.open_agg2 Try.underlying24 (by kernel_rfl) k24 hv h
  obtain ⟨s, e0, _, w0⟩ := DataW.trod_string Try.underlying9 t0
  obtain ⟨A, len, cap, l, e1, h1, h2, h3⟩ := open_cols t1
  simp only [List.cons.injEq, and_true] at e0 e1
  subst e0 e1
  exact ⟨s, A, len, cap, l, rfl, w0, h1, h2, h3⟩
set_option maxRecDepth 100000 in
/-- A batch by value. -/
theorem open_batch {r : Reach} {b0 : Nat} {v : Value} {d : DataW H} {p : List MemPlace} (hv : Value.okWide Try.prog W r b0 38 v) (h : DataW.Trod enc Try.prog W 0 (fun _ => true) true 38 v d p) :
    ∃ id A n c l, v = .agg #[.int .i64 id, .slice A n c] ∧ -9223372036854775808 ≤ id ∧ id ≤ 9223372036854775807 ∧ RdR W A n l ∧ n ≤ c ∧ c ≤ 9223372036854775807 := by
  obtain ⟨v0, v1, y0, y1, n, rfl, _, _, t0, t1⟩ := Go.Joins.open_agg2 Try.underlying38 (by kernel_rfl) k38 hv h
  obtain ⟨a, e0, _, w0⟩ := DataW.trod_int Try.underlying3 t0
  obtain ⟨A, len, cap, l, e1, h1, h2, h3⟩ := open_rows t1
  simp only [List.cons.injEq, and_true] at e0 e1
  subst e0 e1
  exact ⟨a, A, len, cap, l, rfl, (wf64 w0).1, (wf64 w0).2, h1, h2, h3⟩
/-- An ask. -/
structure Ak where
  kind : Int
  n : Int
  m : Int
instance : Inhabited Ak := ⟨⟨0, 0, 0⟩⟩
structure Ak.Fit (a : Ak) : Prop where
  k0 : -9223372036854775808 ≤ a.kind
  k1 : a.kind ≤ 9223372036854775807
  n0 : -9223372036854775808 ≤ a.n
  n1 : a.n ≤ 9223372036854775807
  m0 : -9223372036854775808 ≤ a.m
  m1 : a.m ≤ 9223372036854775807
def atA (w : World) (g o : Nat) (v : Ak) : Prop := w.cell? ⟨g, o, none⟩ = some (.int .i64 v.kind) ∧ w.cell? ⟨g, o + 1, none⟩ = some (.int .i64 v.n) ∧ w.cell? ⟨g, o + 2, none⟩ = some (.int .i64 v.m) ∧ v.Fit
theorem atA.below {w w' : World} {g o : Nat} {v : Ak} (h : atA w g o v) (hb : Below w.heap.size w w') : atA w' g o v := ⟨pw_cell_below hb h.1, pw_cell_below hb h.2.1, pw_cell_below hb h.2.2.1, h.2.2.2⟩
abbrev RdA := Rd 3 atA
theorem rdA_below {w w' : World} {A : Option Addr} {n : Nat} {l : List Ak} (h : RdA w A n l) (hb : Below w.heap.size w w') : RdA w' A n l := Rd.below (P := atA) (fun h hb => atA.below h hb) h hb
theorem elemA (fuel : Nat) (cs : List Value) (x : DataW H × List MemPlace) (g o : Nat) (h : Tr enc W fuel 80 cs = some x) (hl : cs.length = 3) (hc : ∀ j v, cs[j]? = some v → W.cell? ⟨g, o + j, none⟩ = some v) : ∃ a, atA W g o a := by
  match cs, hl with
  | [v0, v1, v2], _ =>
    obtain ⟨y0, y1, y2, n, _, _, t0, t1, t2⟩ := Deep.trod_struct3 Try.underlying80 h
    simp only [k3, List.drop_zero, List.drop_succ_cons, List.take_succ_cons, List.take_zero] at t0 t1 t2
    obtain ⟨a, e0, _, w0⟩ := DataW.trod_int Try.underlying3 t0
    obtain ⟨b, e1, _, w1⟩ := DataW.trod_int Try.underlying3 t1
    obtain ⟨c, e2, _, w2⟩ := DataW.trod_int Try.underlying3 t2
    simp only [List.cons.injEq, and_true] at e0 e1 e2
    subst e0 e1 e2
    have c0 := hc 0 _ rfl
    have c1 := hc 1 _ rfl
    have c2 := hc 2 _ rfl
    exact ⟨⟨a, b, c⟩, c0, c1, c2, (wf64 w0).1, (wf64 w0).2, (wf64 w1).1, (wf64 w1).2, (wf64 w2).1, (wf64 w2).2⟩
theorem open_asks {fuel : Nat} {cs : List Value} {x : DataW H × List MemPlace} (h : Tr enc W fuel 72 cs = some x) : ∃ A len cap l, cs = [.slice A len cap] ∧ RdA W A len l ∧ len ≤ cap ∧ cap ≤ 9223372036854775807 :=
  open_rd Try.underlying72 k80 (by omega) elemA h
set_option maxRecDepth 100000 in
theorem open_ask {r : Reach} {b0 : Nat} {v : Value} {d : DataW H} {p : List MemPlace} (hv : Value.okWide Try.prog W r b0 80 v) (h : DataW.Trod enc Try.prog W 0 (fun _ => true) true 80 v d p) :
    ∃ k n m, v = .agg #[.int .i64 k, .int .i64 n, .int .i64 m] ∧ Ak.Fit ⟨k, n, m⟩ := by
  obtain ⟨v0, v1, v2, y0, y1, y2, n, rfl, _, _, t0, t1, t2⟩ := Go.Joins.open_agg3 Try.underlying80 (by kernel_rfl) k80 hv h
  obtain ⟨a, e0, _, w0⟩ := DataW.trod_int Try.underlying3 t0
  obtain ⟨b, e1, _, w1⟩ := DataW.trod_int Try.underlying3 t1
  obtain ⟨c, e2, _, w2⟩ := DataW.trod_int Try.underlying3 t2
  simp only [List.cons.injEq, and_true] at e0 e1 e2
  subst e0 e1 e2
  exact ⟨a, b, c, rfl, (wf64 w0).1, (wf64 w0).2, (wf64 w1).1, (wf64 w1).2, (wf64 w2).1, (wf64 w2).2⟩
/-- An act on a line. -/
structure Ac where
  kind : Int
  x : Bt
instance : Inhabited Ac := ⟨⟨0, default⟩⟩
def atAc (w : World) (g o : Nat) (v : Ac) : Prop := w.cell? ⟨g, o, none⟩ = some (.int .i64 v.kind) ∧ atB w g (o + 1) v.x ∧ -9223372036854775808 ≤ v.kind ∧ v.kind ≤ 9223372036854775807
theorem atAc.below {w w' : World} {g o : Nat} {v : Ac} (h : atAc w g o v) (hb : Below w.heap.size w w') : atAc w' g o v := ⟨pw_cell_below hb h.1, h.2.1.below hb, h.2.2⟩
abbrev RdAc := Rd 3 atAc
theorem rdAc_below {w w' : World} {A : Option Addr} {n : Nat} {l : List Ac} (h : RdAc w A n l) (hb : Below w.heap.size w w') : RdAc w' A n l := Rd.below (P := atAc) (fun h hb => atAc.below h hb) h hb
theorem elemAc (fuel : Nat) (cs : List Value) (x : DataW H × List MemPlace) (g o : Nat) (h : Tr enc W fuel 90 cs = some x) (hl : cs.length = 3) (hc : ∀ j v, cs[j]? = some v → W.cell? ⟨g, o + j, none⟩ = some v) : ∃ a, atAc W g o a := by
  match cs, hl with
  | [v0, v1, v2], _ =>
    obtain ⟨y0, y1, n, _, _, t0, t1⟩ := trod_struct2 Try.underlying90 h
    simp only [k3, k38, List.drop_zero, List.drop_succ_cons, List.take_succ_cons, List.take_zero] at t0 t1
    obtain ⟨a, e0, _, w0⟩ := DataW.trod_int Try.underlying3 t0
    simp only [List.cons.injEq, and_true] at e0
    subst e0
    obtain ⟨b, hb⟩ := elemB _ _ _ g (o + 1) t1 rfl (fun j v hj => by
      have := hc (j + 1) v (by simpa using hj)
      rwa [← Nat.add_assoc, Nat.add_right_comm] at this)
    exact ⟨⟨a, b⟩, hc 0 _ rfl, hb, (wf64 w0).1, (wf64 w0).2⟩
theorem open_acts {fuel : Nat} {cs : List Value} {x : DataW H × List MemPlace} (h : Tr enc W fuel 88 cs = some x) : ∃ A len cap l, cs = [.slice A len cap] ∧ RdAc W A len l ∧ len ≤ cap ∧ cap ≤ 9223372036854775807 :=
  open_rd Try.underlying88 k90 (by omega) elemAc h
end Go.Proofs.Ytegkclehijdbiaa.OP
