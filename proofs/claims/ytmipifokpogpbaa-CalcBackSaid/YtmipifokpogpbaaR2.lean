import Derived.Test.YtmipifokpogpbaaR1
namespace Go.Proofs.Ytmipifokpogpbaa.R2
open Go.RowKit Go.Proofs.YtmipifokpogpbaaW.PrintWords Go.Proofs.Ytmipifokpogpbaa.M Go.Proofs.Ytmipifokpogpbaa.R1

/-- A value of the reference's Num: the number that it is. -/
def Num (w : World) (v : Value) (x : Int) : Prop := ∃ neg A c ds, v = .agg #[.bool neg, .slice A ds.length c] ∧ ReadsInt w .i64 A ds.length ds ∧ ds.length ≤ c ∧ c ≤ maxLen ∧ Nm neg ds x
def NumR (w : World) (x : Int) (e : Ending) (w' : World) : Prop := ∃ v, e = .returned v ∧ Num w' v x ∧ Below w.heap.size w w'
theorem Num.below {w w' : World} {v : Value} {x : Int} (h : Num w v x) (hb : Below w.heap.size w w') : Num w' v x := by
  obtain ⟨neg, A, c, ds, e, hr, h1, h2, h3⟩ := h
  exact ⟨neg, A, c, ds, e, hr.below hb, h1, h2, h3⟩

def sgn (neg : Bool) (x : Int) : Int := if neg then -x else x

theorem nm_trim (neg : Bool) (xs : List Int) (dx : Dg xs) : Nm (neg && decide (0 < trimN xs xs.length)) (xs.take (trimN xs xs.length)) (sgn neg (val xs)) := by
  unfold sgn
  have hv := trimN_val xs xs.length
  rw [List.take_length] at hv
  refine ⟨dx.take _, trimN_can xs xs.length (Nat.le_refl _), ?_, ?_⟩
  · rw [hv]
    cases neg with
    | false => simp
    | true =>
      by_cases h : 0 < trimN xs xs.length
      · simp [h]
      · have : trimN xs xs.length = 0 := by omega
        rw [this] at hv
        simp [val] at hv
        simp [h, ← hv]
  · intro h
    have := trimN_le xs xs.length
    simp at h
    intro h0
    have h1 := congrArg List.length h0
    rw [List.length_take, List.length_nil, Nat.min_eq_left (by omega)] at h1
    omega

set_option maxHeartbeats 400000 in
theorem sign (neg : Bool) (A : Option Addr) (n c : Nat) (xs : List Int) (w : World) (hr : ReadsInt w .i64 A n xs) (hnc : n ≤ c) (hc : c ≤ maxLen) (dx : Dg xs) :
    Calls Try.prog 37 #[.bool neg, .slice A n c] w (NumR w (sgn neg (val xs))) := by
  have hn := hr.1
  subst hn
  have ht := trimN_le xs xs.length
  have hr' := Lib.hid (hr.take_ _ ht)
  have hm := Lib.hid (nm_trim neg xs dx)
  have Hl := Lib.hid (show (xs.take (trimN xs xs.length)).length = trimN xs xs.length by rw [List.length_take]; omega)
  go_enter Try.func37, Try.ntmps37
  go_wp2_with (go_at_call 49; (with_reducible refine (trim A _ c xs _ (hr.below (by go_grown)) hnc hc).mono ?_); rintro e w' ⟨rfl, rfl⟩)
  all_goals
    go_returns
    refine ⟨_, rfl, ⟨_, A, c, _, ?_, ?_, ?_, hc, hm.out⟩, by go_grown⟩
    · rw [Hl.out]; simp [*]
    · rw [Hl.out]; exact hr'.out.below (by go_grown)
    · rw [Hl.out]; omega
end Go.Proofs.Ytmipifokpogpbaa.R2
