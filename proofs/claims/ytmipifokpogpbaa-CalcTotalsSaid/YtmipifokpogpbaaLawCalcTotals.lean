/- CalcTotals holds for every input: whatever comes and goes, the sum, or that it is beyond, and how many there are, each time. The conditions are the row's own (CalcTotalsSaid). -/
import Derived.Test.YtmipifokpogpbaaRows
import Derived.Test.YtmipifokpogpbaaL4
import Derived.WalkKit
import Derived.ChangeSame
import Derived.Deep.Slices
import Derived.ProofKit
import Derived.OpenShut
import Derived.ShutString
import Derived.ChangeOld
import Derived.Below
import Derived.SizedLaws
import Derived.Test.YtmipifokpogpbaaWSized
namespace Go.Proofs.Ytmipifokpogpbaa.calcTotals
open Go.ChangeShapes Go.WideShapes Go.ChangeAt Go.RowKit Go.Proofs.YtmipifokpogpbaaW
open Go.ChangeMaps (open_string shut_string)
set_option linter.unusedVariables false
set_option linter.unusedSimpArgs false
theorem own : ownKnob Try.prog.godebug = none := by kernel_rfl
theorem laidOut : laidOutB Try.prog = true := by kernel_rfl
def IsRow (k : IntKind) (w : World) (a : Option Addr) (len cap : Nat) (zs : List Int) : Prop :=
  (a = none ∧ len = 0 ∧ cap = 0 ∧ zs = []) ∨
  ∃ x, a = some x ∧ len ≤ cap ∧ cap ≤ maxLen ∧ zs.length = cap ∧ (∀ i, i < zs.length → w.cell? (x.add i) = some (.int k (zs.getD i 0))) ∧ ∀ n ∈ zs, (Lit.int k n).wf = true
theorem wf64 {a : Int} (h : (Lit.int .i64 a).wf = true) : -9223372036854775808 ≤ a ∧ a ≤ 9223372036854775807 := by
  simp only [Lit.wf] at h
  simp only [Bool.and_eq_true, decide_eq_true_eq] at h
  have e1 : IntKind.i64.min = -9223372036854775808 := by decide
  have e2 : IntKind.i64.max = 9223372036854775807 := by decide
  omega
theorem spot_none {w : World} {a : Addr} {v : Value} (h : w.cell? a = some v) : a.spot = none := by
  unfold World.cell? at h
  split at h
  · split at h
    · cases h
    · rename_i hs; simpa using hs
  · cases h
theorem open_acts {H : Type} {enc : TypeId × Value → H} {W : World} {fuel : Nat} {cs : List Value} {x : DataW H × List MemPlace} (h : DataW.trod enc Try.prog W 0 (fun _ => true) true fuel 35 cs = some x) :
    ∃ A len cap, cs = [.slice A len cap] ∧ len ≤ 9223372036854775807 ∧ L4.Acts W A len := by
  rcases Deep.open_slice Try.underlying35 h with ⟨rfl, _⟩ | ⟨a, len, cap, m, n, D, Pl, rfl, _, hl, hm, hmm, _, hx⟩
  · exact ⟨none, 0, 0, rfl, by omega, fun h => absurd h (by omega)⟩
  · simp only [if_true] at hmm
    subst hmm
    refine ⟨some a, len, m, rfl, Nat.le_trans hl hm, fun h0 => ?_⟩
    have hc : Try.prog.cellsOf 44 = 2 := by kernel_rfl
    have hc4 : Try.prog.cellsOf 4 = 1 := by kernel_rfl
    have hc42 : Try.prog.cellsOf 42 = 1 := by kernel_rfl
    rw [hc] at hx
    have hsp : a.spot = none := by
      obtain ⟨cs', h1, h2⟩ := hx 0 (by omega)
      obtain ⟨_, h3, h4⟩ := World.cells?_some h1
      have h5 := h4 0 (by omega)
      match cs', h3 with
      | [v0, v1], _ => 
        have := spot_none h5
        simpa [Addr.add] using this
    obtain ⟨g, o, sp⟩ := a
    subst hsp
    refine ⟨g, o, rfl, fun i hi => ?_⟩
    obtain ⟨cs', h1, h2⟩ := hx i (by omega)
    obtain ⟨_, h3, h4⟩ := World.cells?_some h1
    match cs', h3 with
    | [v0, v1], _ =>
      have c0 := h4 0 (by omega)
      have c1 := h4 1 (by omega)
      rw [L4.add_at, L4.add_at] at c0 c1
      obtain ⟨y0, y1, n', _, _, t0, t1⟩ := trod_struct2 Try.underlying44 h2
      simp only [hc4, hc42, List.drop_zero, List.drop_succ_cons, List.take_succ_cons, List.take_zero] at t0 t1
      obtain ⟨b, e0, _⟩ := DataW.trod_bool Try.underlying4 t0
      have e0 : v0 = .bool b := by simpa using e0
      subst e0
      obtain ⟨l, A1, n1, c1', e1, hr, hx1, hw⟩ : ∃ l A1 n1 c1', v1 = .slice A1 n1 c1' ∧ PrintWords.ReadsInt W .i64 A1 n1 l ∧ n1 ≤ 9223372036854775807 ∧ C1.In64 l := by
        rcases open_ints Try.underlying42 Try.underlying2 (by kernel_rfl) t1 with ⟨hcs, _⟩ | ⟨x, l, c, zs, hcs, _, hl, hm, hz, _, hcell, hwz⟩
        · refine ⟨[], none, 0, 0, by simpa using hcs, ⟨rfl, by omega, fun h => absurd h (by omega)⟩, by omega, fun x h => by cases h⟩
        · obtain ⟨ll, e, hr, hx, hw, _⟩ := PrintWords.ReadsInt.ofRowC (k := .i64) (w := W) (a := some x) (len := l) (cap := c) (zs := zs) (.inr ⟨x, rfl, hl, hm, by simpa using hz, hcell, hwz⟩)
          exact ⟨ll, some x, l, c, by simpa using hcs, by rw [e]; exact hr, Nat.le_trans hl hm, fun x h => wf64 (hw x h)⟩
      subst e1
      exact ⟨b, A1, n1, c1', l, c0, c1, hr, hw, hx1⟩
set_option maxRecDepth 100000 in
theorem lifted (os : Os) (started : os.Started) (H : Type) (enc : TypeId × Value → H) :
    ReturnsInHanded {} Try.checked os 4 .any (Rows.calcTotalsSpec.pre6 enc Try.prog Try.f4 Rows.calcTotalsRow.domain false) (Rows.calcTotalsSpec.post enc Try.prog Try.f4 false true false false) := by
  refine returnsInHanded_of_change_sized (C := Try.checked) own started (by kernel_rfl) Try.func4
    (ChangeSpec.witness6 (enc := enc) (C := Try.checked) false ⟨#[], #[.slice none 0 0], []⟩ 8 (by kernel_rfl) (by kernel_rfl) (by kernel_rfl) (by kernel_rfl)) ?_
  intro W base args ds gs before hval0 hW hcnd hsz0 _
  have hsz : (DataW.weightsEach Try.prog (Try.f4.params.toList ++ Rows.calcTotalsSpec.plain.varTypes Try.prog) (ds ++ gs)).all (· ≤ reachBytes) = true := hsz0
  have hval : ∀ (j : Nat) t v, Try.f4.params[j]? = some t → args[j]? = some v → Value.okWide Try.prog W .any base t v := hval0
  have hW' := hW
  obtain ⟨p, q, hA0, hV, rfl, hfz, hnd⟩ := hW
  have hA : DataW.TrodAll enc Try.prog W 0 (fun _ => true) true Try.f4.params.toList args.toList ds p := hA0
  rw [Try.params4] at hA hval hsz
  obtain ⟨v0, vs0, d0, ds0, p0, q0, hargs, rfl, rfl, h0, r0⟩ := trodAll_cons hA
  obtain ⟨rfl, rfl, rfl⟩ := trodAll_nil r0
  obtain rfl : args = #[v0] := by cases args; simp_all
  obtain ⟨rfl, rfl⟩ := trodVars_none hV
  obtain ⟨a0, len0, cap0, rfl⟩ := okWide_slice Try.underlying35 (hval 0 35 v0 rfl rfl)
  have k0 := h0
  have lt0 : ∀ x ∈ p0, x.block < W.heap.size := by obtain ⟨m, hm⟩ := k0; exact DataW.trod_lt m _ _ _ hm
  obtain ⟨x0, w0⟩ : len0 ≤ 9223372036854775807 ∧ L4.Acts W a0 len0 := by
    obtain ⟨fuel, hf⟩ := h0
    obtain ⟨A, l, c, hcs, h1, h2⟩ := open_acts hf
    simp [Value.cells] at hcs
    obtain ⟨rfl, rfl, rfl⟩ := hcs
    exact ⟨h1, h2⟩
  clear hA0 hval0 hsz0 hsz
  refine (L4.law a0 len0 cap0 W w0 x0).mono fun e W' ⟨he, bel⟩ => ?_
  subst he
  exact ⟨_, rfl, _, _, _, [], _, [], hW', trodAll_mk1 (shut_bool Try.underlying4 _), (trodAll_cons_mk (Below.trod laidOut (by kernel_rfl) (of_decide_eq_true (by kernel_rfl)) k0 bel lt0) trodAll_mk0), rfl, bel.frame _, fun h => by cases h⟩
theorem over : Rows.calcTotalsRow.holds Try.pinned (OpenSpec.ofChange Rows.calcTotalsSpec) :=
  OpenClaim.holds_of_wide 4 Try.f4 rfl rfl rfl rfl rfl rfl rfl ⟨rfl, rfl, rfl, rfl, rfl⟩ rfl rfl rfl rfl rfl (by kernel_rfl) Try.func4 (by kernel_rfl)
    (of_decide_eq_true (by kernel_rfl)) (by unfold Func.isWrapper; first | (rw [if_pos (by decide +kernel)]; kernel_rfl) | (rw [if_neg (by decide +kernel)]; exact ⟨rfl, rfl⟩))
    (fun os started H enc _ => lifted os started H enc)
theorem proved : Rows.CalcTotalsSaid := over
#print axioms proved
end Go.Proofs.Ytmipifokpogpbaa.calcTotals
namespace Go.Proofs.Ytmipifokpogpbaa
/-- The row, under a short name, for the claim. -/
theorem calcTotals_holds : Rows.CalcTotalsSaid := calcTotals.proved
end Go.Proofs.Ytmipifokpogpbaa
