import Derived.Test.YtmipifokpogpbaaR6
namespace Go.Proofs.Ytmipifokpogpbaa.R7
open Go.RowKit Go.Proofs.YtmipifokpogpbaaW.PrintWords Go.Proofs.Ytmipifokpogpbaa.M Go.Proofs.Ytmipifokpogpbaa.R1 Go.Proofs.Ytmipifokpogpbaa.R2 Go.Proofs.Ytmipifokpogpbaa.R3 Go.Proofs.Ytmipifokpogpbaa.R4 Go.Proofs.Ytmipifokpogpbaa.R5 Go.Proofs.Ytmipifokpogpbaa.R6

def erV (x : Int) : Int := if inR x = true then 0 else 2
theorem erV_yes {x : Int} (h : inR x = true) : erV x = 0 := if_pos h
theorem erV_no {x : Int} (h : inR x = false) : erV x = 2 := if_neg (by simp [h])

set_option maxHeartbeats 400000 in
theorem told (v : Value) (x : Int) (w : World) (h : Num w v x) (hx : -10 ^ 1000000 < x) (hx' : x < 10 ^ 1000000) :
    Calls Try.prog 13 #[v, .int .i64 (smV x), .int .i64 (erV x)] w fun e w' => e = .returned (.bool true) ∧ Below w.heap.size w w' := by
  have hN := h
  obtain ⟨neg, A, c, ds, rfl, hr, h1, h2, h3⟩ := h
  cases hi : inR x with
  | true =>
    have he := erV_yes hi
    have Hi := Lib.hid hi
    rw [he]
    clear he hi
    go_enter Try.func13, Try.ntmps13
    go_wp2_with (go_at_call 36; (with_reducible refine (small _ x _ (hN.below (by go_grown)) hx hx').mono ?_); rintro e w' ⟨rfl, hB⟩; rw [Hi.out])
    all_goals
      go_ret
      exact ⟨rfl, Below.trans (by go_grown) (hB.mono (by simp))⟩
  | false =>
    have he := erV_no hi
    have Hi := Lib.hid hi
    rw [he]
    clear he hi
    go_enter Try.func13, Try.ntmps13
    go_wp2_with (go_at_call 36; (with_reducible refine (small _ x _ (hN.below (by go_grown)) hx hx').mono ?_); rintro e w' ⟨rfl, hB⟩; rw [Hi.out])
    all_goals
      go_ret
      exact ⟨rfl, Below.trans (by go_grown) (hB.mono (by simp))⟩

/-- A variable of the reference's Num, at block g: the number that it holds. -/
def NBox (w : World) (g : Nat) (x : Int) : Prop := ∃ neg A c ds, w.heap[g]? = some (.cells #[.bool neg, .slice A ds.length c] 29 (0, 0)) ∧ ReadsInt w .i64 A ds.length ds ∧ ds.length ≤ c ∧ c ≤ maxLen ∧ Nm neg ds x
theorem NBox.below {w w' : World} {g : Nat} {x : Int} (h : NBox w g x) (hb : Below w.heap.size w w') : NBox w' g x := by
  obtain ⟨neg, A, c, ds, e, hr, h1, h2, h3⟩ := h
  exact ⟨neg, A, c, ds, (hb.block _ (blk_lt e)).trans e, hr.below hb, h1, h2, h3⟩
/-- Another number is stored into it. -/
theorem nbox_set {w : World} {g : Nat} {b0 neg : Bool} {A0 A : Option Addr} {n0 c0 c : Nat} {ds : List Int} {x : Int} (hb : w.heap[g]? = some (.cells #[.bool b0, .slice A0 n0 c0] 29 (0, 0)))
    (hr : ReadsInt w .i64 A ds.length ds) (l1 : ds.length ≤ c) (l2 : c ≤ maxLen) (hx : Nm neg ds x) : NBox ((w.setCell ⟨g, 0, none⟩ (.bool neg)).setCell ⟨g, 1, none⟩ (.slice A ds.length c)) g x := by
  have h1 := blk_put hb 0 (.bool neg) rfl
  refine ⟨neg, A, c, ds, blk_put h1 1 (.slice A ds.length c) rfl, ?_, l1, l2, hx⟩
  refine reads_set (u := .slice A0 n0 c0) (reads_set (u := .bool b0) hr _ ?_ (fun q h => by cases h)) _ ?_ (fun q h => by cases h)
  · exact (blk_cell hb 0).trans rfl
  · exact (blk_cell h1 1).trans rfl
theorem nbox_far {w : World} {g g' : Nat} {b0 : Bool} {A0 : Option Addr} {n0 c0 : Nat} {x : Int} {u v : Value} (h : NBox w g' x) (hb : w.heap[g]? = some (.cells #[.bool b0, .slice A0 n0 c0] 29 (0, 0))) (hne : g' ≠ g) : NBox ((w.setCell ⟨g, 0, none⟩ u).setCell ⟨g, 1, none⟩ v) g' x := by
  obtain ⟨neg, A, c, ds, e, hr, h1, h2, h3⟩ := h
  have k1 := blk_set hb 0 u
  refine ⟨neg, A, c, ds, blk_far (blk_far e hne _) hne _, ?_, h1, h2, h3⟩
  refine reads_set (u := .slice A0 n0 c0) (reads_set (u := .bool b0) hr _ ?_ (fun q h => by cases h)) _ ?_ (fun q h => by cases h)
  · exact (blk_cell hb 0).trans rfl
  · exact (blk_cell k1 1).trans rfl
end Go.Proofs.Ytmipifokpogpbaa.R7
