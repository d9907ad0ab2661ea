import Derived.Test.YtchjlcchggeonaaLN
import Derived.ChangeSame
import Derived.ChangeArms
import Derived.Deep.Slices
import Derived.OpenShut
set_option linter.unusedSimpArgs false
set_option linter.unusedVariables false
namespace Go.Proofs.Ytchjlcchggeonaa.OP
open Go.ChangeShapes Go.WideShapes Go.ChangeAt Go.RowKit Go.Proofs.YtchjlcchggeonaaW.PrintWords Go.Proofs.YtchjlcchggeonaaW.PrintLast
open Go.ChangeMaps (open_string shut_string)

/-- An element. -/
def el {α : Type} [Inhabited α] (l : List α) (k : Nat) : α := l.getD k default
theorem add_at (g o j : Nat) : (⟨g, o, none⟩ : Addr).add j = ⟨g, o + j, none⟩ := by unfold Addr.add; split <;> simp_all
/-- What lies in memory, one element behind the other, sz cells each. -/
def Rd {α : Type} [Inhabited α] (sz : Nat) (P : World → Nat → Nat → α → Prop) (w : World) (A : Option Addr) (n : Nat) (l : List α) : Prop :=
  l.length = n ∧ n ≤ 9223372036854775807 ∧ (0 < n → ∃ g o, A = some ⟨g, o, none⟩ ∧ ∀ i < n, P w g (o + i * sz) (el l i))
theorem spot_none {w : World} {a : Addr} {v : Value} (h : w.cell? a = some v) : a.spot = none := by
  unfold World.cell? at h
  split at h
  · split at h
    · cases h
    · rename_i hs; simpa using hs
  · cases h
variable {H : Type} {enc : TypeId × Value → H} {W : World}
noncomputable abbrev Tr (enc : TypeId × Value → H) (W : World) (fuel : Nat) (t : TypeId) (cs : List Value) := DataW.trod enc Try.prog W 0 (fun _ => true) true fuel t cs
/-- A slice, opened by its elements. -/
theorem open_rd {α : Type} [Inhabited α] {sz : Nat} {P : World → Nat → Nat → α → Prop} {T e : TypeId} (ht : Try.prog.underlying T = some (.slice e)) (hc : Try.prog.cellsOf e = sz) (hs : 0 < sz)
    (hel : ∀ fuel cs x g o, Tr enc W fuel e cs = some x → cs.length = sz → (∀ j v, cs[j]? = some v → W.cell? ⟨g, o + j, none⟩ = some v) → ∃ a, P W g o a)
    {fuel : Nat} {cs : List Value} {x : DataW H × List MemPlace} (h : Tr enc W fuel T cs = some x) :
    ∃ A len cap l, cs = [.slice A len cap] ∧ Rd sz P W A len l ∧ len ≤ cap ∧ cap ≤ 9223372036854775807 := by
  rcases Deep.open_slice ht h with ⟨rfl, _⟩ | ⟨a, len, cap, m, n, D, Pl, rfl, _, hl, hm, hmm, _, hx⟩
  · exact ⟨none, 0, 0, [], rfl, ⟨rfl, by omega, fun h => absurd h (by omega)⟩, by omega, by omega⟩
  · simp only [if_true] at hmm
    subst hmm
    have hm' : m ≤ 9223372036854775807 := hm
    rw [hc] at hx
    by_cases h0 : len = 0
    · subst h0
      exact ⟨some a, 0, m, [], rfl, ⟨rfl, by omega, fun h => absurd h (by omega)⟩, hl, hm'⟩
    have hsp : a.spot = none := by
      obtain ⟨cs', h1, h2⟩ := hx 0 (by omega)
      obtain ⟨_, h3, h4⟩ := World.cells?_some h1
      have h5 := h4 0 (by omega)
      rw [List.getElem?_eq_getElem (by omega)] at h5
      have := spot_none h5
      simpa [Addr.add] using this
    obtain ⟨g, o, sp⟩ := a
    subst hsp
    have key : ∀ i : Nat, ∃ v : α, i < len → P W g (o + i * sz) v := by
      intro i
      by_cases hi : i < len
      · obtain ⟨cs', h1, h2⟩ := hx i (by omega)
        obtain ⟨_, h3, h4⟩ := World.cells?_some h1
        obtain ⟨v, hv⟩ := hel _ _ _ g (o + i * sz) h2 h3 (fun j v hj => by
          have hj' : j < sz := by
            rcases Nat.lt_or_ge j cs'.length with h | h
            · omega
            · rw [List.getElem?_eq_none h] at hj; cases hj
          have := h4 j hj'
          rw [add_at, add_at] at this
          rw [this, hj])
        exact ⟨v, fun _ => hv⟩
      · exact ⟨default, fun h => absurd h hi⟩
    obtain ⟨f, hf⟩ := Classical.axiomOfChoice key
    refine ⟨_, len, m, (List.range len).map f, rfl, ⟨by simp, by omega, fun _ => ⟨g, o, rfl, fun i hi => ?_⟩⟩, hl, hm'⟩
    have e : el ((List.range len).map f) i = f i := by simp [el, List.getD, hi]
    rw [e]; exact hf i hi
theorem k9 : Try.prog.cellsOf 9 = 1 := by kernel_rfl
def atS (w : World) (g o : Nat) (s : ByteArray) : Prop := w.cell? ⟨g, o, none⟩ = some (.string s) ∧ s.size ≤ 9223372036854775807
instance : Inhabited ByteArray := ⟨⟨#[]⟩⟩
abbrev RdS := Rd 1 atS
theorem elemS (fuel : Nat) (cs : List Value) (x : DataW H × List MemPlace) (g o : Nat) (h : Tr enc W fuel 9 cs = some x) (hl : cs.length = 1) (hc : ∀ j v, cs[j]? = some v → W.cell? ⟨g, o + j, none⟩ = some v) : ∃ a, atS W g o a := by
  obtain ⟨s, rfl, _, w0⟩ := DataW.trod_string Try.underlying9 h
  exact ⟨s, hc 0 _ rfl, w0⟩
theorem open_strs {fuel : Nat} {cs : List Value} {x : DataW H × List MemPlace} (h : Tr enc W fuel 31 cs = some x) : ∃ A len cap l, cs = [.slice A len cap] ∧ RdS W A len l ∧ len ≤ cap ∧ cap ≤ 9223372036854775807 :=
  open_rd Try.underlying31 k9 (by omega) elemS h
theorem RdS.txt {w : World} {A : Option Addr} {n : Nat} {l : List ByteArray} (h : RdS w A n l) : LN.Txt w A n := by
  refine ⟨h.2.1, fun hn => ?_⟩
  obtain ⟨g, o, e, hc⟩ := h.2.2 hn
  refine ⟨g, o, e, fun i hi => ⟨el l i, ?_⟩⟩
  have := (hc i hi).1
  rwa [Nat.mul_one] at this
end Go.Proofs.Ytchjlcchggeonaa.OP
