/-
  No cell of these rows narrows 'for every input' (looked for: loops, veiled, ifaces, maps, wideKeys, modest, calm, conditions, laid).
  DERIVED. THE GIVEN ROWS OF THIS SEAT. 7 by the template 'for every input the law returns true; each argument reads behind the call as it read before'; 0 by the template 'total and deterministic' (their statements: YtmipifokpogpbaaTotals.lean).
  GIVEN WITH THE SEED: the statements are not yours to turn. If you find one false, say at which input.
  Laid BY PROGRAM, IN A SANDBOX (cutbox-rows.mjs): the forced cells as the released guide's own fill.sh prints them over the translation 17afffe83c07828b… (all of the seat's roots in one cut). By AI agents, Wed Nov 11 2026. No macro, syntax, notation, axiom, sorry.
-/
import Derived.Test.YtmipifokpogpbaaChecked
import GoSem.Claim
import GoSem.ClaimJoined
import GoSem.ClaimMapViews
import Derived.JoinedTies
import Derived.KernelRfl
namespace Go.Proofs.Ytmipifokpogpbaa
/- THE CELL 'sum', in the pinned program and in every row, IS THE sha256 OF THE DUMP (.gsa) THAT YtmipifokpogpbaaProg.lean LOADS. Nothing in Lean hashes anything: it is a label: what it is worth is what the hold of that sum in a sandbox is worth. -/
noncomputable def Try.pinned : Pinned := { name := "ytmipifokpogpbaa", sum := "17afffe83c07828b1b35a4ab65858055e64b22e6d1d3cfb5436b5eab0b9d8713", checked := Try.checked }
namespace Rows
def none {H : Type} : Left H := { results := [], args := [] }

/-- 'affluxlaw01.CalcDivides': WHATEVER THE INPUT: true; the input reads as it did. -/
def calcDividesSpec : ChangeSpec := { name := "calcDivides", fn := fun _ => fun
  | [d1, d2] => { results := [.lit (.bool true)], args := [d1, d2] }
  | _ => none }
def calcDividesRow : OpenClaim := { program := "ytmipifokpogpbaa", sum := "17afffe83c07828b1b35a4ab65858055e64b22e6d1d3cfb5436b5eab0b9d8713", func := "afflux/affluxlaw01.CalcDivides", spec := "calcDivides", inPlace := ["math/bits.Add64", "math/bits.Sub64"], apart := false }
def CalcDividesSaid : Prop := calcDividesRow.holds Try.pinned (OpenSpec.ofChange calcDividesSpec)

/-- ITS FALSE NEIGHBOUR: 'it returns false'. Refute it at one input. -/
def calcDividesWrong : ChangeSpec := { name := "calcDivides", fn := fun _ => fun
  | [d1, d2] => { results := [.lit (.bool false)], args := [d1, d2] }
  | _ => none }
def CalcDividesWrongFalsely : Prop := calcDividesRow.holds Try.pinned (OpenSpec.ofChange calcDividesWrong)

/-- 'affluxlaw01.CalcTotals': WHATEVER THE INPUT: true; the input reads as it did. -/
def calcTotalsSpec : ChangeSpec := { name := "calcTotals", fn := fun _ => fun
  | [d] => { results := [.lit (.bool true)], args := [d] }
  | _ => none }
def calcTotalsRow : OpenClaim := { program := "ytmipifokpogpbaa", sum := "17afffe83c07828b1b35a4ab65858055e64b22e6d1d3cfb5436b5eab0b9d8713", func := "afflux/affluxlaw01.CalcTotals", spec := "calcTotals", inPlace := ["math/bits.Add64", "math/bits.Sub64"], apart := false }
def CalcTotalsSaid : Prop := calcTotalsRow.holds Try.pinned (OpenSpec.ofChange calcTotalsSpec)

/-- ITS FALSE NEIGHBOUR: 'it returns false'. Refute it at one input. -/
def calcTotalsWrong : ChangeSpec := { name := "calcTotals", fn := fun _ => fun
  | [d] => { results := [.lit (.bool false)], args := [d] }
  | _ => none }
def CalcTotalsWrongFalsely : Prop := calcTotalsRow.holds Try.pinned (OpenSpec.ofChange calcTotalsWrong)

/-- 'affluxlaw01.CalcEnds': WHATEVER THE INPUT: true; the input reads as it did. -/
def calcEndsSpec : ChangeSpec := { name := "calcEnds", fn := fun _ => fun
  | [d1, d2] => { results := [.lit (.bool true)], args := [d1, d2] }
  | _ => none }
def calcEndsRow : OpenClaim := { program := "ytmipifokpogpbaa", sum := "17afffe83c07828b1b35a4ab65858055e64b22e6d1d3cfb5436b5eab0b9d8713", func := "afflux/affluxlaw01.CalcEnds", spec := "calcEnds", inPlace := ["math/bits.Add64", "math/bits.Sub64"], apart := false }
def CalcEndsSaid : Prop := calcEndsRow.holds Try.pinned (OpenSpec.ofChange calcEndsSpec)

/-- ITS FALSE NEIGHBOUR: 'it returns false'. Refute it at one input. -/
def calcEndsWrong : ChangeSpec := { name := "calcEnds", fn := fun _ => fun
  | [d1, d2] => { results := [.lit (.bool false)], args := [d1, d2] }
  | _ => none }
def CalcEndsWrongFalsely : Prop := calcEndsRow.holds Try.pinned (OpenSpec.ofChange calcEndsWrong)

/-- 'affluxlaw01.CalcSums': WHATEVER THE INPUT: true; the input reads as it did. -/
def calcSumsSpec : ChangeSpec := { name := "calcSums", fn := fun _ => fun
  | [d1, d2] => { results := [.lit (.bool true)], args := [d1, d2] }
  | _ => none }
def calcSumsRow : OpenClaim := { program := "ytmipifokpogpbaa", sum := "17afffe83c07828b1b35a4ab65858055e64b22e6d1d3cfb5436b5eab0b9d8713", func := "afflux/affluxlaw01.CalcSums", spec := "calcSums", inPlace := ["math/bits.Add64", "math/bits.Sub64"], apart := false }
def CalcSumsSaid : Prop := calcSumsRow.holds Try.pinned (OpenSpec.ofChange calcSumsSpec)

/-- ITS FALSE NEIGHBOUR: 'it returns false'. Refute it at one input. -/
def calcSumsWrong : ChangeSpec := { name := "calcSums", fn := fun _ => fun
  | [d1, d2] => { results := [.lit (.bool false)], args := [d1, d2] }
  | _ => none }
def CalcSumsWrongFalsely : Prop := calcSumsRow.holds Try.pinned (OpenSpec.ofChange calcSumsWrong)

/-- 'affluxlaw01.CalcRests': WHATEVER THE INPUT: true; the input reads as it did. -/
def calcRestsSpec : ChangeSpec := { name := "calcRests", fn := fun _ => fun
  | [d1, d2] => { results := [.lit (.bool true)], args := [d1, d2] }
  | _ => none }
def calcRestsRow : OpenClaim := { program := "ytmipifokpogpbaa", sum := "17afffe83c07828b1b35a4ab65858055e64b22e6d1d3cfb5436b5eab0b9d8713", func := "afflux/affluxlaw01.CalcRests", spec := "calcRests", inPlace := ["math/bits.Add64", "math/bits.Sub64"], apart := false }
def CalcRestsSaid : Prop := calcRestsRow.holds Try.pinned (OpenSpec.ofChange calcRestsSpec)

/-- ITS FALSE NEIGHBOUR: 'it returns false'. Refute it at one input. -/
def calcRestsWrong : ChangeSpec := { name := "calcRests", fn := fun _ => fun
  | [d1, d2] => { results := [.lit (.bool false)], args := [d1, d2] }
  | _ => none }
def CalcRestsWrongFalsely : Prop := calcRestsRow.holds Try.pinned (OpenSpec.ofChange calcRestsWrong)

/-- 'affluxlaw01.CalcTexts': WHATEVER THE INPUT: true; the input reads as it did. -/
def calcTextsSpec : ChangeSpec := { name := "calcTexts", fn := fun _ => fun
  | [d1, d2] => { results := [.lit (.bool true)], args := [d1, d2] }
  | _ => none }
def calcTextsRow : OpenClaim := { program := "ytmipifokpogpbaa", sum := "17afffe83c07828b1b35a4ab65858055e64b22e6d1d3cfb5436b5eab0b9d8713", func := "afflux/affluxlaw01.CalcTexts", spec := "calcTexts", inPlace := ["math/bits.Add64", "math/bits.Sub64"], apart := false }
def CalcTextsSaid : Prop := calcTextsRow.holds Try.pinned (OpenSpec.ofChange calcTextsSpec)

/-- ITS FALSE NEIGHBOUR: 'it returns false'. Refute it at one input. -/
def calcTextsWrong : ChangeSpec := { name := "calcTexts", fn := fun _ => fun
  | [d1, d2] => { results := [.lit (.bool false)], args := [d1, d2] }
  | _ => none }
def CalcTextsWrongFalsely : Prop := calcTextsRow.holds Try.pinned (OpenSpec.ofChange calcTextsWrong)

/-- 'affluxlaw01.CalcBack': WHATEVER THE INPUT: true; the input reads as it did. -/
def calcBackSpec : ChangeSpec := { name := "calcBack", fn := fun _ => fun
  | [d] => { results := [.lit (.bool true)], args := [d] }
  | _ => none }
def calcBackRow : OpenClaim := { program := "ytmipifokpogpbaa", sum := "17afffe83c07828b1b35a4ab65858055e64b22e6d1d3cfb5436b5eab0b9d8713", func := "afflux/affluxlaw01.CalcBack", spec := "calcBack", inPlace := ["math/bits.Add64", "math/bits.Sub64"], apart := false }
def CalcBackSaid : Prop := calcBackRow.holds Try.pinned (OpenSpec.ofChange calcBackSpec)

/-- ITS FALSE NEIGHBOUR: 'it returns false'. Refute it at one input. -/
def calcBackWrong : ChangeSpec := { name := "calcBack", fn := fun _ => fun
  | [d] => { results := [.lit (.bool false)], args := [d] }
  | _ => none }
def CalcBackWrongFalsely : Prop := calcBackRow.holds Try.pinned (OpenSpec.ofChange calcBackWrong)

/- THE SECOND FORM. 'bulk': how many values and letters a reading holds, each counted each time it is reached (what is shared counts as often as it is met; a slice's spare places count too). A statement '..UptoSaid' is the law's where the arguments, and the package variables that the reading takes, are together of bulk at most 1048576: NARROWER than '..Said'. Prove '..Said' where nothing that the law and all that it calls make is longer than what came in: it says more and counts as full. Else prove '..UptoSaid'. A law counts once. -/
mutual
def uptoBulk {H : Type} : DataW H → Nat
  | .lit (.string bytes) => bytes.length + 1
  | .lit _ => 1
  | .nil => 1
  | .ptr d => uptoBulk d + 1
  | .slice elems spare => uptoBulkAll elems + uptoBulkAll spare + 1
  | .agg parts => uptoBulkAll parts + 1
  | .iface _ d => uptoBulk d + 1
  | .map entries => uptoBulkEntries entries + 1
  | .held _ => 1
def uptoBulkAll {H : Type} : List (DataW H) → Nat
  | [] => 0
  | d :: r => uptoBulk d + uptoBulkAll r
def uptoBulkEntries {H : Type} : List (Lit × DataW H) → Nat
  | [] => 0
  | x :: r => uptoBulkEntry x + uptoBulkEntries r
def uptoBulkEntry {H : Type} : Lit × DataW H → Nat
  | (.string bytes, d) => bytes.length + uptoBulk d + 1
  | (_, d) => uptoBulk d + 1
 end
def uptoSmall : (H : Type) → List (DataW H) → Bool := fun _ ds => decide (uptoBulkAll ds ≤ 1048576)
def OpenSpec.upto (s : _root_.Go.ChangeSpec) : _root_.Go.OpenSpec := { _root_.Go.OpenSpec.ofChange s with cond := some uptoSmall }

/-- 'affluxlaw01.CalcDivides', WHERE WHAT IT READS IS OF BULK AT MOST 1048576: true; the input reads as it did. -/
def calcDividesUptoRow : OpenClaim := { program := "ytmipifokpogpbaa", sum := "17afffe83c07828b1b35a4ab65858055e64b22e6d1d3cfb5436b5eab0b9d8713", func := "afflux/affluxlaw01.CalcDivides", spec := "calcDivides", inPlace := ["math/bits.Add64", "math/bits.Sub64"], apart := false, narrowed := true }
def CalcDividesUptoSaid : Prop := calcDividesUptoRow.holds Try.pinned (OpenSpec.upto calcDividesSpec)

/-- 'affluxlaw01.CalcTotals', WHERE WHAT IT READS IS OF BULK AT MOST 1048576: true; the input reads as it did. -/
def calcTotalsUptoRow : OpenClaim := { program := "ytmipifokpogpbaa", sum := "17afffe83c07828b1b35a4ab65858055e64b22e6d1d3cfb5436b5eab0b9d8713", func := "afflux/affluxlaw01.CalcTotals", spec := "calcTotals", inPlace := ["math/bits.Add64", "math/bits.Sub64"], apart := false, narrowed := true }
def CalcTotalsUptoSaid : Prop := calcTotalsUptoRow.holds Try.pinned (OpenSpec.upto calcTotalsSpec)

/-- 'affluxlaw01.CalcEnds', WHERE WHAT IT READS IS OF BULK AT MOST 1048576: true; the input reads as it did. -/
def calcEndsUptoRow : OpenClaim := { program := "ytmipifokpogpbaa", sum := "17afffe83c07828b1b35a4ab65858055e64b22e6d1d3cfb5436b5eab0b9d8713", func := "afflux/affluxlaw01.CalcEnds", spec := "calcEnds", inPlace := ["math/bits.Add64", "math/bits.Sub64"], apart := false, narrowed := true }
def CalcEndsUptoSaid : Prop := calcEndsUptoRow.holds Try.pinned (OpenSpec.upto calcEndsSpec)

/-- 'affluxlaw01.CalcSums', WHERE WHAT IT READS IS OF BULK AT MOST 1048576: true; the input reads as it did. -/
def calcSumsUptoRow : OpenClaim := { program := "ytmipifokpogpbaa", sum := "17afffe83c07828b1b35a4ab65858055e64b22e6d1d3cfb5436b5eab0b9d8713", func := "afflux/affluxlaw01.CalcSums", spec := "calcSums", inPlace := ["math/bits.Add64", "math/bits.Sub64"], apart := false, narrowed := true }
def CalcSumsUptoSaid : Prop := calcSumsUptoRow.holds Try.pinned (OpenSpec.upto calcSumsSpec)

/-- 'affluxlaw01.CalcRests', WHERE WHAT IT READS IS OF BULK AT MOST 1048576: true; the input reads as it did. -/
def calcRestsUptoRow : OpenClaim := { program := "ytmipifokpogpbaa", sum := "17afffe83c07828b1b35a4ab65858055e64b22e6d1d3cfb5436b5eab0b9d8713", func := "afflux/affluxlaw01.CalcRests", spec := "calcRests", inPlace := ["math/bits.Add64", "math/bits.Sub64"], apart := false, narrowed := true }
def CalcRestsUptoSaid : Prop := calcRestsUptoRow.holds Try.pinned (OpenSpec.upto calcRestsSpec)

/-- 'affluxlaw01.CalcTexts', WHERE WHAT IT READS IS OF BULK AT MOST 1048576: true; the input reads as it did. -/
def calcTextsUptoRow : OpenClaim := { program := "ytmipifokpogpbaa", sum := "17afffe83c07828b1b35a4ab65858055e64b22e6d1d3cfb5436b5eab0b9d8713", func := "afflux/affluxlaw01.CalcTexts", spec := "calcTexts", inPlace := ["math/bits.Add64", "math/bits.Sub64"], apart := false, narrowed := true }
def CalcTextsUptoSaid : Prop := calcTextsUptoRow.holds Try.pinned (OpenSpec.upto calcTextsSpec)

/-- 'affluxlaw01.CalcBack', WHERE WHAT IT READS IS OF BULK AT MOST 1048576: true; the input reads as it did. -/
def calcBackUptoRow : OpenClaim := { program := "ytmipifokpogpbaa", sum := "17afffe83c07828b1b35a4ab65858055e64b22e6d1d3cfb5436b5eab0b9d8713", func := "afflux/affluxlaw01.CalcBack", spec := "calcBack", inPlace := ["math/bits.Add64", "math/bits.Sub64"], apart := false, narrowed := true }
def CalcBackUptoSaid : Prop := calcBackUptoRow.holds Try.pinned (OpenSpec.upto calcBackSpec)

end Rows
end Go.Proofs.Ytmipifokpogpbaa
