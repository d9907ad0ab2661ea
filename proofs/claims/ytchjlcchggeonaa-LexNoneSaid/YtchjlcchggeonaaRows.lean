/-
  No cell of these rows narrows 'for every input' (looked for: loops, veiled, ifaces, maps, wideKeys, modest, calm, conditions, laid).
  DERIVED. THE GIVEN ROWS OF THIS SEAT. 3 by the template 'for every input the law returns true; each argument reads behind the call as it read before'; 0 by the template 'total and deterministic' (their statements: YtchjlcchggeonaaTotals.lean).
  GIVEN WITH THE SEED: the statements are not yours to turn. If you find one false, say at which input.
  Laid BY PROGRAM, IN A SANDBOX (cutbox-rows.mjs): the forced cells as the released guide's own fill.sh prints them over the translation 731f87e6ccabbe09… (all of the seat's roots in one cut). By AI agents, Wed Nov 11 2026. No macro, syntax, notation, axiom, sorry.
-/
import Derived.Test.YtchjlcchggeonaaChecked
import GoSem.Claim
import GoSem.ClaimJoined
import GoSem.ClaimMapViews
import Derived.JoinedTies
import Derived.KernelRfl
namespace Go.Proofs.Ytchjlcchggeonaa
/- THE CELL 'sum', in the pinned program and in every row, IS THE sha256 OF THE DUMP (.gsa) THAT YtchjlcchggeonaaProg.lean LOADS. Nothing in Lean hashes anything: it is a label: what it is worth is what the hold of that sum in a sandbox is worth. -/
noncomputable def Try.pinned : Pinned := { name := "ytchjlcchggeonaa", sum := "731f87e6ccabbe09231e4f6066698b96b2b49a67930569e598dae54d1ea5b739", checked := Try.checked }
namespace Rows
def none {H : Type} : Left H := { results := [], args := [] }

/-- 'affluxlaw11.LexStands': WHATEVER THE INPUT: true; the input reads as it did. -/
def lexStandsSpec : ChangeSpec := { name := "lexStands", fn := fun _ => fun
  | [d] => { results := [.lit (.bool true)], args := [d] }
  | _ => none }
def lexStandsRow : OpenClaim := { program := "ytchjlcchggeonaa", sum := "731f87e6ccabbe09231e4f6066698b96b2b49a67930569e598dae54d1ea5b739", func := "afflux/affluxlaw11.LexStands", spec := "lexStands", inPlace := ["internal/bytealg.IndexByteString", "math/bits.Add64"], apart := false }
def LexStandsSaid : Prop := lexStandsRow.holds Try.pinned (OpenSpec.ofChange lexStandsSpec)

/-- ITS FALSE NEIGHBOUR: 'it returns false'. Refute it at one input. -/
def lexStandsWrong : ChangeSpec := { name := "lexStands", fn := fun _ => fun
  | [d] => { results := [.lit (.bool false)], args := [d] }
  | _ => none }
def LexStandsWrongFalsely : Prop := lexStandsRow.holds Try.pinned (OpenSpec.ofChange lexStandsWrong)

/-- 'affluxlaw11.LexSpaces': WHATEVER THE INPUT: true; the input reads as it did. -/
def lexSpacesSpec : ChangeSpec := { name := "lexSpaces", fn := fun _ => fun
  | [d1, d2] => { results := [.lit (.bool true)], args := [d1, d2] }
  | _ => none }
def lexSpacesRow : OpenClaim := { program := "ytchjlcchggeonaa", sum := "731f87e6ccabbe09231e4f6066698b96b2b49a67930569e598dae54d1ea5b739", func := "afflux/affluxlaw11.LexSpaces", spec := "lexSpaces", inPlace := ["internal/bytealg.IndexByteString", "math/bits.Add64"], apart := false }
def LexSpacesSaid : Prop := lexSpacesRow.holds Try.pinned (OpenSpec.ofChange lexSpacesSpec)

/-- ITS FALSE NEIGHBOUR: 'it returns false'. Refute it at one input. -/
def lexSpacesWrong : ChangeSpec := { name := "lexSpaces", fn := fun _ => fun
  | [d1, d2] => { results := [.lit (.bool false)], args := [d1, d2] }
  | _ => none }
def LexSpacesWrongFalsely : Prop := lexSpacesRow.holds Try.pinned (OpenSpec.ofChange lexSpacesWrong)

/-- 'affluxlaw11.LexNone': WHATEVER THE INPUT: true; the input reads as it did. -/
def lexNoneSpec : ChangeSpec := { name := "lexNone", fn := fun _ => fun
  | [d1, d2] => { results := [.lit (.bool true)], args := [d1, d2] }
  | _ => none }
def lexNoneRow : OpenClaim := { program := "ytchjlcchggeonaa", sum := "731f87e6ccabbe09231e4f6066698b96b2b49a67930569e598dae54d1ea5b739", func := "afflux/affluxlaw11.LexNone", spec := "lexNone", inPlace := ["internal/bytealg.IndexByteString", "math/bits.Add64"], unfollowed := true, recurses := true, apart := false }
def LexNoneSaid : Prop := lexNoneRow.holds Try.pinned (OpenSpec.ofChange lexNoneSpec)

/-- ITS FALSE NEIGHBOUR: 'it returns false'. Refute it at one input. -/
def lexNoneWrong : ChangeSpec := { name := "lexNone", fn := fun _ => fun
  | [d1, d2] => { results := [.lit (.bool false)], args := [d1, d2] }
  | _ => none }
def LexNoneWrongFalsely : Prop := lexNoneRow.holds Try.pinned (OpenSpec.ofChange lexNoneWrong)

/- THE SECOND FORM. 'bulk': how many values and letters a reading holds, each counted each time it is reached (what is shared counts as often as it is met; a slice's spare places count too). A statement '..UptoSaid' is the law's where the arguments, and the package variables that the reading takes, are together of bulk at most 1048576: NARROWER than '..Said'. Prove '..Said' where nothing that the law and all that it calls make is longer than what came in: it says more and counts as full. Else prove '..UptoSaid'. A law counts once. -/
mutual
def uptoBulk {H : Type} : DataW H → Nat
  | .lit (.string bytes) => bytes.length + 1
  | .lit _ => 1
  | .nil => 1
  | .ptr d => uptoBulk d + 1
  | .slice elems spare => uptoBulkAll elems + uptoBulkAll spare + 1
  | .agg parts => uptoBulkAll parts + 1
  | .iface _ d => uptoBulk d + 1
  | .map entries => uptoBulkEntries entries + 1
  | .held _ => 1
def uptoBulkAll {H : Type} : List (DataW H) → Nat
  | [] => 0
  | d :: r => uptoBulk d + uptoBulkAll r
def uptoBulkEntries {H : Type} : List (Lit × DataW H) → Nat
  | [] => 0
  | x :: r => uptoBulkEntry x + uptoBulkEntries r
def uptoBulkEntry {H : Type} : Lit × DataW H → Nat
  | (.string bytes, d) => bytes.length + uptoBulk d + 1
  | (_, d) => uptoBulk d + 1
 end
def uptoSmall : (H : Type) → List (DataW H) → Bool := fun _ ds => decide (uptoBulkAll ds ≤ 1048576)
def OpenSpec.upto (s : _root_.Go.ChangeSpec) : _root_.Go.OpenSpec := { _root_.Go.OpenSpec.ofChange s with cond := some uptoSmall }

/-- 'affluxlaw11.LexStands', WHERE WHAT IT READS IS OF BULK AT MOST 1048576: true; the input reads as it did. -/
def lexStandsUptoRow : OpenClaim := { program := "ytchjlcchggeonaa", sum := "731f87e6ccabbe09231e4f6066698b96b2b49a67930569e598dae54d1ea5b739", func := "afflux/affluxlaw11.LexStands", spec := "lexStands", inPlace := ["internal/bytealg.IndexByteString", "math/bits.Add64"], apart := false, narrowed := true }
def LexStandsUptoSaid : Prop := lexStandsUptoRow.holds Try.pinned (OpenSpec.upto lexStandsSpec)

/-- 'affluxlaw11.LexSpaces', WHERE WHAT IT READS IS OF BULK AT MOST 1048576: true; the input reads as it did. -/
def lexSpacesUptoRow : OpenClaim := { program := "ytchjlcchggeonaa", sum := "731f87e6ccabbe09231e4f6066698b96b2b49a67930569e598dae54d1ea5b739", func := "afflux/affluxlaw11.LexSpaces", spec := "lexSpaces", inPlace := ["internal/bytealg.IndexByteString", "math/bits.Add64"], apart := false, narrowed := true }
def LexSpacesUptoSaid : Prop := lexSpacesUptoRow.holds Try.pinned (OpenSpec.upto lexSpacesSpec)

/-- 'affluxlaw11.LexNone', WHERE WHAT IT READS IS OF BULK AT MOST 1048576: true; the input reads as it did. -/
def lexNoneUptoRow : OpenClaim := { program := "ytchjlcchggeonaa", sum := "731f87e6ccabbe09231e4f6066698b96b2b49a67930569e598dae54d1ea5b739", func := "afflux/affluxlaw11.LexNone", spec := "lexNone", inPlace := ["internal/bytealg.IndexByteString", "math/bits.Add64"], unfollowed := true, recurses := true, apart := false, narrowed := true }
def LexNoneUptoSaid : Prop := lexNoneUptoRow.holds Try.pinned (OpenSpec.upto lexNoneSpec)

end Rows
end Go.Proofs.Ytchjlcchggeonaa
