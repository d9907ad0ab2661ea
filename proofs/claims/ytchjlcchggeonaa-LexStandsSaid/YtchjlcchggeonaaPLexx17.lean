-- printed by a program of this session's over the seat's translation; Lean checks it
import Derived.Test.YtchjlcchggeonaaPLexx0
import Derived.Test.YtchjlcchggeonaaPLexx13
import Derived.Test.YtchjlcchggeonaaPLexx16
namespace Go.Proofs.Ytchjlcchggeonaa.PLex
open Go.RowKit Go.Proofs.YtchjlcchggeonaaW.PrintWords Go.Proofs.YtchjlcchggeonaaW.PrintLast Go.Proofs.YtchjlcchggeonaaW.PrintMore
attribute [local go_sem] max2_int min2_int max_two min_two max_three min_three max_four min_four   -- for this text's walks alone
set_option linter.unusedVariables false
set_option linter.unusedSimpArgs false

/-! ### affluxlaw11_LexStands: function 3 -/
mutual
def affluxlaw11_LexStands.l0 : Nat → ByteArray → List (S28) → Int → Bool → Int → Option (Bool)
  | 0, _, _, _, _, _ => none
  | k + 1, x0, x3, x6, x7, x8 => if x8 ≤ (x3.length : Int) then (if x8 < (x3.length : Int) then (if 0 ≤ x8 then (affluxlaw11_LexStands.j1 k x0 x3 x6 x7 x8 ((rd_T28 x3 x8).f3)) else (none)) else (affluxlaw11_LexStands.j1 k x0 x3 x6 x7 x8 (x0.size : Int))) else ((affluxlaw11_awake.f).bind fun t167 => (some t167))
def affluxlaw11_LexStands.j1 : Nat → ByteArray → List (S28) → Int → Bool → Int → Int → Option (Bool)
  | 0, _, _, _, _, _, _ => none
  | k + 1, x0, x3, x6, x7, x8, x9 => if x9 < x6 then (affluxlaw11_LexStands.j2 k x0 x3 x6 x7 x8 x9 true) else (affluxlaw11_LexStands.j2 k x0 x3 x6 x7 x8 x9 (decide (x9 > (x0.size : Int))))
def affluxlaw11_LexStands.j2 : Nat → ByteArray → List (S28) → Int → Bool → Int → Int → Bool → Option (Bool)
  | 0, _, _, _, _, _, _, _ => none
  | k + 1, x0, x3, x6, x7, x8, x9, x52 => if x52 = true then (some false) else (affluxlaw11_LexStands.l1 k x0 x3 x6 x7 x8 x9)
def affluxlaw11_LexStands.l1 : Nat → ByteArray → List (S28) → Int → Bool → Int → Int → Option (Bool)
  | 0, _, _, _, _, _, _ => none
  | k + 1, x0, x3, x6, x7, x8, x9 => if x6 < x9 then (if 0 ≤ x6 then (if x6 < (x0.size : Int) then (if (bt x0 x6) = 10 then (if (bt x0 x6) = 32 then (affluxlaw11_LexStands.l1 k x0 x3 (wrap64 (x6 + 1)) false x8 x9) else (if (bt x0 x6) = 9 then (affluxlaw11_LexStands.l1 k x0 x3 (wrap64 (x6 + 1)) false x8 x9) else (affluxlaw11_LexStands.l1 k x0 x3 (wrap64 (x6 + 1)) false x8 x9))) else (if x7 = true then (affluxlaw11_LexStands.l1 k x0 x3 (wrap64 (x6 + 1)) true x8 x9) else (if ((bt x0 x6) = 47) then (affluxlaw11_LexStands.l1 k x0 x3 (wrap64 (x6 + 1)) ((bt x0 x6) == 47) x8 x9) else (if (bt x0 x6) = 32 then (affluxlaw11_LexStands.l1 k x0 x3 (wrap64 (x6 + 1)) ((bt x0 x6) == 47) x8 x9) else (if (bt x0 x6) = 9 then (affluxlaw11_LexStands.l1 k x0 x3 (wrap64 (x6 + 1)) ((bt x0 x6) == 47) x8 x9) else (some false)))))) else (none)) else (none)) else (if x7 = true then (if x8 < (x3.length : Int) then (affluxlaw11_LexStands.j4 k x0 x3 x6 x7 x8 true) else (affluxlaw11_LexStands.j4 k x0 x3 x6 x7 x8 (x8 == (x3.length : Int)))) else (affluxlaw11_LexStands.j4 k x0 x3 x6 x7 x8 (x8 == (x3.length : Int))))
def affluxlaw11_LexStands.j4 : Nat → ByteArray → List (S28) → Int → Bool → Int → Bool → Option (Bool)
  | 0, _, _, _, _, _, _ => none
  | k + 1, x0, x3, x6, x7, x8, x96 => if x96 = true then (if x8 = (x3.length : Int) then ((affluxlaw11_awake.f).bind fun t169 => (some t169)) else (some false)) else (if 0 ≤ x8 then (if x8 < (x3.length : Int) then (if ((rd_T28 x3 x8).f0) = 2 then (affluxlaw11_LexStands.l2 k x0 x3 x6 x7 x8 (wrap64 ((((rd_T28 x3 x8).f1).size : Int) + 2)) 0) else (if (wrap64 (x6 + (((rd_T28 x3 x8).f1).size : Int))) > (x0.size : Int) then (some false) else (if 0 ≤ x6 then (if x6 ≤ (wrap64 (x6 + (((rd_T28 x3 x8).f1).size : Int))) then (if (wrap64 (x6 + (((rd_T28 x3 x8).f1).size : Int))) ≤ (x0.size : Int) then (if (x0.extract (x6 : Int).toNat ((wrap64 (x6 + (((rd_T28 x3 x8).f1).size : Int))) : Int).toNat).toList = ((rd_T28 x3 x8).f1).toList then (affluxlaw11_LexStands.l0 k x0 x3 (wrap64 (x6 + (((rd_T28 x3 x8).f1).size : Int))) x7 (wrap64 (x8 + 1))) else (some false)) else (none)) else (none)) else (none)))) else (none)) else (none))
def affluxlaw11_LexStands.l2 : Nat → ByteArray → List (S28) → Int → Bool → Int → Int → Int → Option (Bool)
  | 0, _, _, _, _, _, _, _ => none
  | k + 1, x0, x3, x6, x7, x8, x11, x12 => if 0 ≤ x8 then (if x8 < (x3.length : Int) then (if x12 < (((rd_T28 x3 x8).f1).size : Int) then (if 0 ≤ x12 then (if (bt ((rd_T28 x3 x8).f1) x12) = 39 then (affluxlaw11_LexStands.l2 k x0 x3 x6 x7 x8 (wrap64 (x11 + 1)) (wrap64 (x12 + 1))) else (affluxlaw11_LexStands.l2 k x0 x3 x6 x7 x8 x11 (wrap64 (x12 + 1)))) else (none)) else (affluxlaw11_LexStands.l0 k x0 x3 (wrap64 (x6 + x11)) x7 (wrap64 (x8 + 1)))) else (none)) else (none)
end
def affluxlaw11_LexStands.f (k : Nat) (a0 : ByteArray) : Option (Bool) := (lex_Words.f k a0).bind fun bt161 => (if bt161.2.2 = 0 then (affluxlaw11_LexStands.l0 k a0 bt161.1 0 false 0) else (if (bt161.1.length : Int) = 0 then ((affluxlaw11_awake.f).bind fun t166 => (some t166)) else (some false)))
theorem affluxlaw11_LexStands.mono_l : ∀ k, (∀ y0 y1 y2 y3 y4, LeO (affluxlaw11_LexStands.l0 k y0 y1 y2 y3 y4) (affluxlaw11_LexStands.l0 (k + 1) y0 y1 y2 y3 y4)) ∧ (∀ y0 y1 y2 y3 y4 y5, LeO (affluxlaw11_LexStands.j1 k y0 y1 y2 y3 y4 y5) (affluxlaw11_LexStands.j1 (k + 1) y0 y1 y2 y3 y4 y5)) ∧ (∀ y0 y1 y2 y3 y4 y5 y6, LeO (affluxlaw11_LexStands.j2 k y0 y1 y2 y3 y4 y5 y6) (affluxlaw11_LexStands.j2 (k + 1) y0 y1 y2 y3 y4 y5 y6)) ∧ (∀ y0 y1 y2 y3 y4 y5, LeO (affluxlaw11_LexStands.l1 k y0 y1 y2 y3 y4 y5) (affluxlaw11_LexStands.l1 (k + 1) y0 y1 y2 y3 y4 y5)) ∧ (∀ y0 y1 y2 y3 y4 y5, LeO (affluxlaw11_LexStands.j4 k y0 y1 y2 y3 y4 y5) (affluxlaw11_LexStands.j4 (k + 1) y0 y1 y2 y3 y4 y5)) ∧ (∀ y0 y1 y2 y3 y4 y5 y6, LeO (affluxlaw11_LexStands.l2 k y0 y1 y2 y3 y4 y5 y6) (affluxlaw11_LexStands.l2 (k + 1) y0 y1 y2 y3 y4 y5 y6))
  | 0 => ⟨fun _ _ _ _ _ r h => by simp [affluxlaw11_LexStands.l0] at h, fun _ _ _ _ _ _ r h => by simp [affluxlaw11_LexStands.j1] at h, fun _ _ _ _ _ _ _ r h => by simp [affluxlaw11_LexStands.j2] at h, fun _ _ _ _ _ _ r h => by simp [affluxlaw11_LexStands.l1] at h, fun _ _ _ _ _ _ r h => by simp [affluxlaw11_LexStands.j4] at h, fun _ _ _ _ _ _ _ r h => by simp [affluxlaw11_LexStands.l2] at h⟩
  | k + 1 => by
    obtain ⟨ih0, ih1, ih2, ih3, ih4, ih5⟩ := affluxlaw11_LexStands.mono_l k
    refine ⟨?_, ?_, ?_, ?_, ?_, ?_⟩
    · intro y0 y1 y2 y3 y4
      unfold affluxlaw11_LexStands.l0
      repeat' first
      | (with_reducible exact ih0 _ _ _ _ _)
      | (with_reducible exact ih1 _ _ _ _ _ _)
      | (with_reducible exact ih2 _ _ _ _ _ _ _)
      | (with_reducible exact ih3 _ _ _ _ _ _)
      | (with_reducible exact ih4 _ _ _ _ _ _)
      | (with_reducible exact ih5 _ _ _ _ _ _ _)
      | (with_reducible exact lex_Words.mono _ _)
      | (with_reducible exact LeO.refl _)
      | (with_reducible exact LeO.none _)
      | (with_reducible refine LeO.ite ?_ ?_)
      | (with_reducible refine LeO.bind ?_ (fun _ => ?_))
      | exact ih0 _ _ _ _ _
      | exact ih1 _ _ _ _ _ _
      | exact ih2 _ _ _ _ _ _ _
      | exact ih3 _ _ _ _ _ _
      | exact ih4 _ _ _ _ _ _
      | exact ih5 _ _ _ _ _ _ _
      | exact lex_Words.mono _ _
      | exact LeO.none _
      | refine LeO.ite ?_ ?_
      | refine LeO.bind ?_ (fun _ => ?_)
    · intro y0 y1 y2 y3 y4 y5
      unfold affluxlaw11_LexStands.j1
      repeat' first
      | (with_reducible exact ih0 _ _ _ _ _)
      | (with_reducible exact ih1 _ _ _ _ _ _)
      | (with_reducible exact ih2 _ _ _ _ _ _ _)
      | (with_reducible exact ih3 _ _ _ _ _ _)
      | (with_reducible exact ih4 _ _ _ _ _ _)
      | (with_reducible exact ih5 _ _ _ _ _ _ _)
      | (with_reducible exact lex_Words.mono _ _)
      | (with_reducible exact LeO.refl _)
      | (with_reducible exact LeO.none _)
      | (with_reducible refine LeO.ite ?_ ?_)
      | (with_reducible refine LeO.bind ?_ (fun _ => ?_))
      | exact ih0 _ _ _ _ _
      | exact ih1 _ _ _ _ _ _
      | exact ih2 _ _ _ _ _ _ _
      | exact ih3 _ _ _ _ _ _
      | exact ih4 _ _ _ _ _ _
      | exact ih5 _ _ _ _ _ _ _
      | exact lex_Words.mono _ _
      | exact LeO.none _
      | refine LeO.ite ?_ ?_
      | refine LeO.bind ?_ (fun _ => ?_)
    · intro y0 y1 y2 y3 y4 y5 y6
      unfold affluxlaw11_LexStands.j2
      repeat' first
      | (with_reducible exact ih0 _ _ _ _ _)
      | (with_reducible exact ih1 _ _ _ _ _ _)
      | (with_reducible exact ih2 _ _ _ _ _ _ _)
      | (with_reducible exact ih3 _ _ _ _ _ _)
      | (with_reducible exact ih4 _ _ _ _ _ _)
      | (with_reducible exact ih5 _ _ _ _ _ _ _)
      | (with_reducible exact lex_Words.mono _ _)
      | (with_reducible exact LeO.refl _)
      | (with_reducible exact LeO.none _)
      | (with_reducible refine LeO.ite ?_ ?_)
      | (with_reducible refine LeO.bind ?_ (fun _ => ?_))
      | exact ih0 _ _ _ _ _
      | exact ih1 _ _ _ _ _ _
      | exact ih2 _ _ _ _ _ _ _
      | exact ih3 _ _ _ _ _ _
      | exact ih4 _ _ _ _ _ _
      | exact ih5 _ _ _ _ _ _ _
      | exact lex_Words.mono _ _
      | exact LeO.none _
      | refine LeO.ite ?_ ?_
      | refine LeO.bind ?_ (fun _ => ?_)
    · intro y0 y1 y2 y3 y4 y5
      unfold affluxlaw11_LexStands.l1
      repeat' first
      | (with_reducible exact ih0 _ _ _ _ _)
      | (with_reducible exact ih1 _ _ _ _ _ _)
      | (with_reducible exact ih2 _ _ _ _ _ _ _)
      | (with_reducible exact ih3 _ _ _ _ _ _)
      | (with_reducible exact ih4 _ _ _ _ _ _)
      | (with_reducible exact ih5 _ _ _ _ _ _ _)
      | (with_reducible exact lex_Words.mono _ _)
      | (with_reducible exact LeO.refl _)
      | (with_reducible exact LeO.none _)
      | (with_reducible refine LeO.ite ?_ ?_)
      | (with_reducible refine LeO.bind ?_ (fun _ => ?_))
      | exact ih0 _ _ _ _ _
      | exact ih1 _ _ _ _ _ _
      | exact ih2 _ _ _ _ _ _ _
      | exact ih3 _ _ _ _ _ _
      | exact ih4 _ _ _ _ _ _
      | exact ih5 _ _ _ _ _ _ _
      | exact lex_Words.mono _ _
      | exact LeO.none _
      | refine LeO.ite ?_ ?_
      | refine LeO.bind ?_ (fun _ => ?_)
    · intro y0 y1 y2 y3 y4 y5
      unfold affluxlaw11_LexStands.j4
      repeat' first
      | (with_reducible exact ih0 _ _ _ _ _)
      | (with_reducible exact ih1 _ _ _ _ _ _)
      | (with_reducible exact ih2 _ _ _ _ _ _ _)
      | (with_reducible exact ih3 _ _ _ _ _ _)
      | (with_reducible exact ih4 _ _ _ _ _ _)
      | (with_reducible exact ih5 _ _ _ _ _ _ _)
      | (with_reducible exact lex_Words.mono _ _)
      | (with_reducible exact LeO.refl _)
      | (with_reducible exact LeO.none _)
      | (with_reducible refine LeO.ite ?_ ?_)
      | (with_reducible refine LeO.bind ?_ (fun _ => ?_))
      | exact ih0 _ _ _ _ _
      | exact ih1 _ _ _ _ _ _
      | exact ih2 _ _ _ _ _ _ _
      | exact ih3 _ _ _ _ _ _
      | exact ih4 _ _ _ _ _ _
      | exact ih5 _ _ _ _ _ _ _
      | exact lex_Words.mono _ _
      | exact LeO.none _
      | refine LeO.ite ?_ ?_
      | refine LeO.bind ?_ (fun _ => ?_)
    · intro y0 y1 y2 y3 y4 y5 y6
      unfold affluxlaw11_LexStands.l2
      repeat' first
      | (with_reducible exact ih0 _ _ _ _ _)
      | (with_reducible exact ih1 _ _ _ _ _ _)
      | (with_reducible exact ih2 _ _ _ _ _ _ _)
      | (with_reducible exact ih3 _ _ _ _ _ _)
      | (with_reducible exact ih4 _ _ _ _ _ _)
      | (with_reducible exact ih5 _ _ _ _ _ _ _)
      | (with_reducible exact lex_Words.mono _ _)
      | (with_reducible exact LeO.refl _)
      | (with_reducible exact LeO.none _)
      | (with_reducible refine LeO.ite ?_ ?_)
      | (with_reducible refine LeO.bind ?_ (fun _ => ?_))
      | exact ih0 _ _ _ _ _
      | exact ih1 _ _ _ _ _ _
      | exact ih2 _ _ _ _ _ _ _
      | exact ih3 _ _ _ _ _ _
      | exact ih4 _ _ _ _ _ _
      | exact ih5 _ _ _ _ _ _ _
      | exact lex_Words.mono _ _
      | exact LeO.none _
      | refine LeO.ite ?_ ?_
      | refine LeO.bind ?_ (fun _ => ?_)
theorem affluxlaw11_LexStands.mono : ∀ a0 k, LeO (affluxlaw11_LexStands.f k a0) (affluxlaw11_LexStands.f (k + 1) a0) := by
  intro a0 k
  obtain ⟨ih0, ih1, ih2, ih3, ih4, ih5⟩ := affluxlaw11_LexStands.mono_l k
  unfold affluxlaw11_LexStands.f
  repeat' first
      | (with_reducible exact ih0 _ _ _ _ _)
      | (with_reducible exact ih1 _ _ _ _ _ _)
      | (with_reducible exact ih2 _ _ _ _ _ _ _)
      | (with_reducible exact ih3 _ _ _ _ _ _)
      | (with_reducible exact ih4 _ _ _ _ _ _)
      | (with_reducible exact ih5 _ _ _ _ _ _ _)
      | (with_reducible exact lex_Words.mono _ _)
      | (with_reducible exact LeO.refl _)
      | (with_reducible exact LeO.none _)
      | (with_reducible refine LeO.ite ?_ ?_)
      | (with_reducible refine LeO.bind ?_ (fun _ => ?_))
      | exact ih0 _ _ _ _ _
      | exact ih1 _ _ _ _ _ _
      | exact ih2 _ _ _ _ _ _ _
      | exact ih3 _ _ _ _ _ _
      | exact ih4 _ _ _ _ _ _
      | exact ih5 _ _ _ _ _ _ _
      | exact lex_Words.mono _ _
      | exact LeO.none _
      | refine LeO.ite ?_ ?_
      | refine LeO.bind ?_ (fun _ => ?_)
set_option maxHeartbeats 8000000 in
set_option maxRecDepth 100000 in
theorem affluxlaw11_LexStands.calls (k : Nat) (a0 : ByteArray) (r : Bool) (w : World) (h : affluxlaw11_LexStands.f k a0 = some r) :
    Calls Try.prog 3 #[.string a0] w fun e w' => e = .returned (.bool r) ∧ Below w.heap.size w w' := by
  have HB := Aside0.mk (Below.refl w.heap.size w)
  have H : ((lex_Words.f k a0).bind fun bt161 => (if bt161.2.2 = 0 then (affluxlaw11_LexStands.l0 k a0 bt161.1 0 false 0) else (if (bt161.1.length : Int) = 0 then ((affluxlaw11_awake.f).bind fun t166 => (some t166)) else (some false)))) = some r := h
  clear h
  replace H := Option.bind_eq_some_iff.mp H
  obtain ⟨⟨t161, t162, t163⟩, A20, H⟩ := H
  replace H : (if t163 = 0 then (affluxlaw11_LexStands.l0 k a0 t161 0 false 0) else (if (t161.length : Int) = 0 then ((affluxlaw11_awake.f).bind fun t166 => (some t166)) else (some false))) = some r := H
  have A2 := Aside0.mk A20
  clear A20
  by_cases c3 : t163 = 0
  · rw [if_pos c3] at H
    have c3b0 : (t163 == 0) = true := beq_iff_eq.mpr c3
    have c3b1 : (t163 != 0) = false := bne_eq_false_iff_eq.mpr c3
    clear c3
    have H' := Aside0.mk H
    clear H
    go_enter Try.func3, Try.ntmps3
    go_wp2_with (first | (go_at_call 6; (with_reducible refine (lex_Words.calls k a0 t161 t162 t163 _ A2.out).mono ?_); rintro e w4 ⟨v164, rfl, ho0, hb⟩; have n0_ := Aside0.mk (Kd.R_lower ho0 (below_size (by repeat (first | (with_reducible first | exact HB.out | apply below_alloc | apply pw_below_drewN | apply below_drew1) | exact HB.out)))); have n1_ := Aside0.mk (below_step (by repeat (first | (with_reducible first | exact HB.out | apply below_alloc | apply pw_below_drewN | apply below_drew1) | exact HB.out)) hb); clear HB; have HO165 := n0_; have HB := n1_; clear n0_ n1_; (try clear hb); (try clear hb2); (try clear hk); (try clear hi); (try clear ho0)))
    repeat (go_quiet (first | (go_at_call 6; (with_reducible refine (lex_Words.calls k a0 t161 t162 t163 _ A2.out).mono ?_); rintro e w4 ⟨v164, rfl, ho0, hb⟩; have n0_ := Aside0.mk (Kd.R_lower ho0 (below_size (by repeat (first | (with_reducible first | exact HB.out | apply below_alloc | apply pw_below_drewN | apply below_drew1) | exact HB.out)))); have n1_ := Aside0.mk (below_step (by repeat (first | (with_reducible first | exact HB.out | apply below_alloc | apply pw_below_drewN | apply below_drew1) | exact HB.out)) hb); clear HB; have HO165 := n0_; have HB := n1_; clear n0_ n1_; (try clear hb); (try clear hb2); (try clear hk); (try clear hi); (try clear ho0))); try go_wp2_with (first | (go_at_call 6; (with_reducible refine (lex_Words.calls k a0 t161 t162 t163 _ A2.out).mono ?_); rintro e w4 ⟨v164, rfl, ho0, hb⟩; have n0_ := Aside0.mk (Kd.R_lower ho0 (below_size (by repeat (first | (with_reducible first | exact HB.out | apply below_alloc | apply pw_below_drewN | apply below_drew1) | exact HB.out)))); have n1_ := Aside0.mk (below_step (by repeat (first | (with_reducible first | exact HB.out | apply below_alloc | apply pw_below_drewN | apply below_drew1) | exact HB.out)) hb); clear HB; have HO165 := n0_; have HB := n1_; clear n0_ n1_; (try clear hb); (try clear hb2); (try clear hk); (try clear hi); (try clear ho0))))
    go_loopg [6, 7, 8] k (fun kq v6 v7 v8 w' => ∃ (x6_1 : Int) (x7_1 : Bool) (x8_1 : Int), v6 = .int .i64 x6_1 ∧ v7 = .bool x7_1 ∧ v8 = .int .i64 x8_1 ∧ Aside0 (affluxlaw11_LexStands.l0 kq a0 t161 x6_1 x7_1 x8_1 = some r) ∧ Aside0 (kq ≤ k) ∧ Aside0 (Kd.R k28 28 w' w.heap.size (fun _ => True) v164 t161) ∧ Aside0 (Below w.heap.size w w'))
    case atStart => exact ⟨(0), (false), (0), (by first | rfl | (simp; done) | (simp [*]; done)), (by first | rfl | (simp; done) | (simp [*]; done)), (by first | rfl | (simp; done) | (simp [*]; done)), H', ⟨Nat.le_refl _⟩, ⟨by (with_reducible repeat (first | apply Kd.R_alloc | apply Kd.R_drewN | apply Kd.R_drew)); exact HO165.out⟩, ⟨by repeat (first | (with_reducible first | exact HB.out | apply below_alloc | apply pw_below_drewN | apply below_drew1) | exact HB.out)⟩⟩
    case round =>
      clear H'
      try clear p2
      try clear c3
      try clear c3b0
      try clear c3b1
      obtain ⟨x6_1, x7_1, x8_1, rfl, rfl, rfl, HA, HK1, HO_3, HB⟩ := hrel
      cases gk with
      | zero => exact absurd HA.out (by simp [affluxlaw11_LexStands.l0])
      | succ k1 =>
        have H := HA.out
        clear HA
        simp only [affluxlaw11_LexStands.l0] at H
        by_cases c5 : x8_1 ≤ (t161.length : Int)
        · rw [if_pos c5] at H
          have c5b0 : decide (x8_1 ≤ (t161.length : Int)) = true := decide_eq_true c5
          clear c5
          have HC6 := Aside0.mk H
          clear H
          obtain ⟨Ao7, co7, eo7⟩ := Kd.R_slice HO_3.out
          subst eo7
          go_upto_if 38 with (fail)
          repeat (go_quiet (fail); go_upto_if 38 with (fail))
          go_cut [9] (fun v9 wc => ∃ (kq : Nat) (x9_5 : Int), v9 = .int .i64 x9_5 ∧ Aside0 (affluxlaw11_LexStands.j1 kq a0 t161 x6_1 x7_1 x8_1 x9_5 = some r) ∧ Aside0 (kq ≤ k1) ∧ Aside0 (Kd.R k28 28 wc w.heap.size (fun _ => True) (.slice Ao7 t161.length co7) t161) ∧ Aside0 (Below w.heap.size w wc))
          case first =>
            have H := HC6.out
            clear HC6
            by_cases c8 : x8_1 < (t161.length : Int)
            · rw [if_pos c8] at H
              have c8b0 : decide (x8_1 < (t161.length : Int)) = true := decide_eq_true c8
              clear c8
              (first | rw [c8b0] | (simp only [i64_w, i32_w]; rw [c8b0]) | skip)
              by_cases c9 : 0 ≤ x8_1
              · rw [if_pos c9] at H
                have c9b0 : decide (0 ≤ x8_1) = true := decide_eq_true c9
                clear c9
                have H' := Aside0.mk H
                clear H
                have p168 : 0 ≤ (x8_1 : Int) := of_decide_eq_true (by first | (with_reducible assumption) | assumption)
                have q168 : x8_1 < (t161.length : Int) := of_decide_eq_true (by first | (with_reducible assumption) | assumption)
                obtain ⟨ad168, e168, hx168_0, hx168_1, hx168_2, hx168_3⟩ := at_T28 (Kd.R_reads' HO_3.out).2.2 x8_1 p168 q168
                cases e168
                replace p168 := eq_true p168
                replace q168 := eq_true q168
                go_wp2
                repeat (go_quiet (fail); try go_wp2)
                go_meet
                case rel => exact ⟨_, ((rd_T28 t161 x8_1).f3), (by first | rfl | (simp; done) | (simp [*]; done)), H', ⟨by have := HK1.out; first | omega | exact Nat.le_refl _⟩, ⟨by (with_reducible repeat (first | apply Kd.R_alloc | apply Kd.R_drewN | apply Kd.R_drew)); exact HO_3.out⟩, ⟨by repeat (first | (with_reducible first | exact HB.out | apply below_alloc | apply pw_below_drewN | apply below_drew1) | exact HB.out)⟩⟩
              · rw [if_neg c9] at H
                exact absurd H (by simp)
            · rw [if_neg c8] at H
              have c8b0 : decide (x8_1 < (t161.length : Int)) = false := decide_eq_false c8
              clear c8
              (first | rw [c8b0] | (simp only [i64_w, i32_w]; rw [c8b0]) | skip)
              have H' := Aside0.mk H
              clear H
              go_wp2
              repeat (go_quiet (fail); try go_wp2)
              go_meet
              case rel => exact ⟨_, ((a0.size : Int)), (by first | rfl | (simp; done) | (simp [*]; done)), H', ⟨by have := HK1.out; first | omega | exact Nat.le_refl _⟩, ⟨by (with_reducible repeat (first | apply Kd.R_alloc | apply Kd.R_drewN | apply Kd.R_drew)); exact HO_3.out⟩, ⟨by repeat (first | (with_reducible first | exact HB.out | apply below_alloc | apply pw_below_drewN | apply below_drew1) | exact HB.out)⟩⟩
          case rest =>
            clear HC6
            try clear p1
            try clear q1
            try clear hx1
            try clear p2
            try clear c3
            try clear c3b0
            try clear c3b1
            try clear c5
            try clear c5b0
            try clear c8
            try clear c8b0
            try clear c9
            try clear c9b0
            try clear hx168_0
            try clear hx168_1
            try clear hx168_2
            try clear hx168_3
            try clear p168
            try clear p2
            try clear q168
            obtain ⟨kq, x9_5, rfl, HA, HJ5, HO_3, HB⟩ := hcut
            cases kq with
            | zero => exact absurd HA.out (by simp [affluxlaw11_LexStands.j1])
            | succ kj5 =>
              have H := HA.out
              clear HA
              simp only [affluxlaw11_LexStands.j1] at H
              have HC10 := Aside0.mk H
              clear H
              go_upto_region 12 with (fail)
              repeat (go_quiet (fail); go_upto_region 12 with (fail))
              go_cut [52] (fun v52 wc => ∃ (kq : Nat) (x52_9 : Bool), v52 = .bool x52_9 ∧ Aside0 (affluxlaw11_LexStands.j2 kq a0 t161 x6_1 x7_1 x8_1 x9_5 x52_9 = some r) ∧ Aside0 (kq ≤ kj5) ∧ Aside0 (Kd.R k28 28 wc w.heap.size (fun _ => True) (.slice Ao7 t161.length co7) t161) ∧ Aside0 (Below w.heap.size w wc))
              case first =>
                have H := HC10.out
                clear HC10
                by_cases c11 : x9_5 < x6_1
                · rw [if_pos c11] at H
                  have c11b0 : decide (x9_5 < x6_1) = true := decide_eq_true c11
                  clear c11
                  (first | rw [c11b0] | (simp only [i64_w, i32_w]; rw [c11b0]) | skip)
                  have H' := Aside0.mk H
                  clear H
                  go_wp2
                  repeat (go_quiet (fail); try go_wp2)
                  go_meet
                  case rel => exact ⟨_, (true), (by first | rfl | (simp; done) | (simp [*]; done)), H', ⟨by have := HK1.out; have := HJ5.out; first | omega | exact Nat.le_refl _⟩, ⟨by (with_reducible repeat (first | apply Kd.R_alloc | apply Kd.R_drewN | apply Kd.R_drew)); exact HO_3.out⟩, ⟨by repeat (first | (with_reducible first | exact HB.out | apply below_alloc | apply pw_below_drewN | apply below_drew1) | exact HB.out)⟩⟩
                · rw [if_neg c11] at H
                  have c11b0 : decide (x9_5 < x6_1) = false := decide_eq_false c11
                  clear c11
                  (first | rw [c11b0] | (simp only [i64_w, i32_w]; rw [c11b0]) | skip)
                  have H' := Aside0.mk H
                  clear H
                  go_wp2
                  repeat (go_quiet (fail); try go_wp2)
                  go_meet
                  case rel => exact ⟨_, (decide (x9_5 > (a0.size : Int))), (by first | rfl | (simp; done) | (simp [*]; done)), H', ⟨by have := HK1.out; have := HJ5.out; first | omega | exact Nat.le_refl _⟩, ⟨by (with_reducible repeat (first | apply Kd.R_alloc | apply Kd.R_drewN | apply Kd.R_drew)); exact HO_3.out⟩, ⟨by repeat (first | (with_reducible first | exact HB.out | apply below_alloc | apply pw_below_drewN | apply below_drew1) | exact HB.out)⟩⟩
              case rest =>
                clear HC10
                try clear c1
                try clear p1
                try clear q1
                try clear hx1
                try clear p2
                try clear c3
                try clear c3b0
                try clear c3b1
                try clear c5
                try clear c5b0
                try clear c8
                try clear c8b0
                try clear c9
                try clear c9b0
                try clear c11
                try clear c11b0
                try clear hx168_0
                try clear hx168_1
                try clear hx168_2
                try clear hx168_3
                try clear p1
                try clear p168
                try clear p2
                try clear q1
                try clear q168
                obtain ⟨kq, x52_9, rfl, HA, HJ9, HO_3, HB⟩ := hcut
                cases kq with
                | zero => exact absurd HA.out (by simp [affluxlaw11_LexStands.j2])
                | succ kj9 =>
                  have H := HA.out
                  clear HA
                  simp only [affluxlaw11_LexStands.j2] at H
                  by_cases c12 : x52_9 = true
                  · subst c12
                    have H1 : (some false) = some r := by rw [if_pos rfl] at H; exact H
                    clear H
                    have H := H1
                    clear H1
                    obtain rfl := Option.some.inj H
                    go_wp2
                    repeat (go_quiet (fail); try go_wp2)
                    go_ret
                    exact ⟨by first | rfl | (simp [errW_none, errW_some] <;> rfl) | (simp [*, errW_none, errW_some] <;> rfl), by repeat (first | (with_reducible first | exact HB.out | apply below_alloc | apply pw_below_drewN | apply below_drew1) | exact HB.out)⟩
                  · replace c12 := Bool.eq_false_iff.mpr c12
                    subst c12
                    have H1 : (affluxlaw11_LexStands.l1 kj9 a0 t161 x6_1 x7_1 x8_1 x9_5) = some r := by rw [if_neg (show ¬ (false = true) by decide)] at H; exact H
                    clear H
                    have H := H1
                    clear H1
                    have H' := Aside0.mk H
                    clear H
                    go_wp2
                    repeat (go_quiet (fail); try go_wp2)
                    go_loopg [6, 7] kj9 (fun kq v6 v7 w' => ∃ (x6_4 : Int) (x7_4 : Bool), v6 = .int .i64 x6_4 ∧ v7 = .bool x7_4 ∧ Aside0 (affluxlaw11_LexStands.l1 kq a0 t161 x6_4 x7_4 x8_1 x9_5 = some r) ∧ Aside0 (kq ≤ kj9) ∧ Aside0 (Kd.R k28 28 w' w.heap.size (fun _ => True) (.slice Ao7 t161.length co7) t161) ∧ Aside0 (Below w.heap.size w w'))
                    case atStart => exact ⟨(x6_1), (x7_1), (by first | rfl | (simp; done) | (simp [*]; done)), (by first | rfl | (simp; done) | (simp [*]; done)), H', ⟨Nat.le_refl _⟩, ⟨by (with_reducible repeat (first | apply Kd.R_alloc | apply Kd.R_drewN | apply Kd.R_drew)); exact HO_3.out⟩, ⟨by repeat (first | (with_reducible first | exact HB.out | apply below_alloc | apply pw_below_drewN | apply below_drew1) | exact HB.out)⟩⟩
                    case round =>
                      clear H'
                      try clear c1
                      try clear p1
                      try clear q1
                      try clear hx1
                      try clear p2
                      try clear c3
                      try clear c3b0
                      try clear c3b1
                      try clear c5
                      try clear c5b0
                      try clear c8
                      try clear c8b0
                      try clear c9
                      try clear c9b0
                      try clear c11
                      try clear c11b0
                      try clear c12
                      try clear hx168_0
                      try clear hx168_1
                      try clear hx168_2
                      try clear hx168_3
                      try clear p1
                      try clear p168
                      try clear p2
                      try clear q1
                      try clear q168
                      obtain ⟨x6_4, x7_4, rfl, rfl, HA, HK4, HO_3, HB⟩ := hrel
                      cases gk with
                      | zero => exact absurd HA.out (by simp [affluxlaw11_LexStands.l1])
                      | succ k4 =>
                        have H := HA.out
                        clear HA
                        simp only [affluxlaw11_LexStands.l1] at H
                        by_cases c13 : x6_4 < x9_5
                        · rw [if_pos c13] at H
                          have c13b0 : decide (x6_4 < x9_5) = true := decide_eq_true c13
                          clear c13
                          by_cases c14 : 0 ≤ x6_4
                          · rw [if_pos c14] at H
                            have c14b0 : decide (0 ≤ x6_4) = true := decide_eq_true c14
                            clear c14
                            by_cases c15 : x6_4 < (a0.size : Int)
                            · rw [if_pos c15] at H
                              have c15b0 : decide (x6_4 < (a0.size : Int)) = true := decide_eq_true c15
                              clear c15
                              by_cases c17 : (bt a0 x6_4) = 10
                              · rw [if_pos c17] at H
                                have c17b0 : ((bt a0 x6_4) == 10) = true := beq_iff_eq.mpr c17
                                have c17b1 : ((bt a0 x6_4) != 10) = false := bne_eq_false_iff_eq.mpr c17
                                clear c17
                                by_cases c18 : (bt a0 x6_4) = 32
                                · rw [if_pos c18] at H
                                  have c18b0 : ((bt a0 x6_4) == 32) = true := beq_iff_eq.mpr c18
                                  have c18b1 : ((bt a0 x6_4) != 32) = false := bne_eq_false_iff_eq.mpr c18
                                  clear c18
                                  have H' := Aside0.mk H
                                  clear H
                                  have p16 : 0 ≤ (x6_4 : Int) := of_decide_eq_true (by first | (with_reducible assumption) | assumption)
                                  have q16 : x6_4 < (a0.size : Int) := of_decide_eq_true (by first | (with_reducible assumption) | assumption)
                                  have hx16 := bt_at a0 x6_4
                                  replace p16 := eq_true p16
                                  replace q16 := eq_true q16
                                  go_wp2
                                  repeat (go_quiet (fail); try go_wp2)
                                  go_roundg k4
                                  case measure => have := HK1.out; have := HJ5.out; have := HJ9.out; have := HK4.out; omega
                                  case rel => exact ⟨(wrap64 (x6_4 + 1)), (false), (by first | rfl | (simp; done) | (simp [*]; done)), (by first | rfl | (simp; done) | (simp [*]; done)), H', ⟨by have := HK1.out; have := HJ5.out; have := HJ9.out; have := HK4.out; omega⟩, ⟨by (with_reducible repeat (first | apply Kd.R_alloc | apply Kd.R_drewN | apply Kd.R_drew)); exact HO_3.out⟩, ⟨by repeat (first | (with_reducible first | exact HB.out | apply below_alloc | apply pw_below_drewN | apply below_drew1) | exact HB.out)⟩⟩
                                · rw [if_neg c18] at H
                                  have c18b0 : ((bt a0 x6_4) == 32) = false := beq_eq_false_iff_ne.mpr c18
                                  have c18b1 : ((bt a0 x6_4) != 32) = true := bne_iff_ne.mpr c18
                                  by_cases c19 : (bt a0 x6_4) = 9
                                  · rw [if_pos c19] at H
                                    have c19b0 : ((bt a0 x6_4) == 9) = true := beq_iff_eq.mpr c19
                                    have c19b1 : ((bt a0 x6_4) != 9) = false := bne_eq_false_iff_eq.mpr c19
                                    clear c19
                                    have H' := Aside0.mk H
                                    clear H
                                    have p16 : 0 ≤ (x6_4 : Int) := of_decide_eq_true (by first | (with_reducible assumption) | assumption)
                                    have q16 : x6_4 < (a0.size : Int) := of_decide_eq_true (by first | (with_reducible assumption) | assumption)
                                    have hx16 := bt_at a0 x6_4
                                    replace p16 := eq_true p16
                                    replace q16 := eq_true q16
                                    go_wp2
                                    repeat (go_quiet (fail); try go_wp2)
                                    go_roundg k4
                                    case measure => have := HK1.out; have := HJ5.out; have := HJ9.out; have := HK4.out; omega
                                    case rel => exact ⟨(wrap64 (x6_4 + 1)), (false), (by first | rfl | (simp; done) | (simp [*]; done)), (by first | rfl | (simp; done) | (simp [*]; done)), H', ⟨by have := HK1.out; have := HJ5.out; have := HJ9.out; have := HK4.out; omega⟩, ⟨by (with_reducible repeat (first | apply Kd.R_alloc | apply Kd.R_drewN | apply Kd.R_drew)); exact HO_3.out⟩, ⟨by repeat (first | (with_reducible first | exact HB.out | apply below_alloc | apply pw_below_drewN | apply below_drew1) | exact HB.out)⟩⟩
                                  · rw [if_neg c19] at H
                                    have c19b0 : ((bt a0 x6_4) == 9) = false := beq_eq_false_iff_ne.mpr c19
                                    have c19b1 : ((bt a0 x6_4) != 9) = true := bne_iff_ne.mpr c19
                                    have H' := Aside0.mk H
                                    clear H
                                    have p16 : 0 ≤ (x6_4 : Int) := of_decide_eq_true (by first | (with_reducible assumption) | assumption)
                                    have q16 : x6_4 < (a0.size : Int) := of_decide_eq_true (by first | (with_reducible assumption) | assumption)
                                    have hx16 := bt_at a0 x6_4
                                    replace p16 := eq_true p16
                                    replace q16 := eq_true q16
                                    go_wp2
                                    repeat (go_quiet (fail); try go_wp2)
                                    go_roundg k4
                                    case measure => have := HK1.out; have := HJ5.out; have := HJ9.out; have := HK4.out; omega
                                    case rel => exact ⟨(wrap64 (x6_4 + 1)), (false), (by first | rfl | (simp; done) | (simp [*]; done)), (by first | rfl | (simp; done) | (simp [*]; done)), H', ⟨by have := HK1.out; have := HJ5.out; have := HJ9.out; have := HK4.out; omega⟩, ⟨by (with_reducible repeat (first | apply Kd.R_alloc | apply Kd.R_drewN | apply Kd.R_drew)); exact HO_3.out⟩, ⟨by repeat (first | (with_reducible first | exact HB.out | apply below_alloc | apply pw_below_drewN | apply below_drew1) | exact HB.out)⟩⟩
                              · rw [if_neg c17] at H
                                have c17b0 : ((bt a0 x6_4) == 10) = false := beq_eq_false_iff_ne.mpr c17
                                have c17b1 : ((bt a0 x6_4) != 10) = true := bne_iff_ne.mpr c17
                                by_cases c20 : x7_4 = true
                                · subst c20
                                  have H1 : (affluxlaw11_LexStands.l1 k4 a0 t161 (wrap64 (x6_4 + 1)) true x8_1 x9_5) = some r := by rw [if_pos rfl] at H; exact H
                                  clear H
                                  have H := H1
                                  clear H1
                                  have H' := Aside0.mk H
                                  clear H
                                  have p16 : 0 ≤ (x6_4 : Int) := of_decide_eq_true (by first | (with_reducible assumption) | assumption)
                                  have q16 : x6_4 < (a0.size : Int) := of_decide_eq_true (by first | (with_reducible assumption) | assumption)
                                  have hx16 := bt_at a0 x6_4
                                  replace p16 := eq_true p16
                                  replace q16 := eq_true q16
                                  go_wp2
                                  repeat (go_quiet (fail); try go_wp2)
                                  go_roundg k4
                                  case measure => have := HK1.out; have := HJ5.out; have := HJ9.out; have := HK4.out; omega
                                  case rel => exact ⟨(wrap64 (x6_4 + 1)), (true), (by first | rfl | (simp; done) | (simp [*]; done)), (by first | rfl | (simp; done) | (simp [*]; done)), H', ⟨by have := HK1.out; have := HJ5.out; have := HJ9.out; have := HK4.out; omega⟩, ⟨by (with_reducible repeat (first | apply Kd.R_alloc | apply Kd.R_drewN | apply Kd.R_drew)); exact HO_3.out⟩, ⟨by repeat (first | (with_reducible first | exact HB.out | apply below_alloc | apply pw_below_drewN | apply below_drew1) | exact HB.out)⟩⟩
                                · replace c20 := Bool.eq_false_iff.mpr c20
                                  subst c20
                                  have H1 : (if ((bt a0 x6_4) = 47) then (affluxlaw11_LexStands.l1 k4 a0 t161 (wrap64 (x6_4 + 1)) ((bt a0 x6_4) == 47) x8_1 x9_5) else (if (bt a0 x6_4) = 32 then (affluxlaw11_LexStands.l1 k4 a0 t161 (wrap64 (x6_4 + 1)) ((bt a0 x6_4) == 47) x8_1 x9_5) else (if (bt a0 x6_4) = 9 then (affluxlaw11_LexStands.l1 k4 a0 t161 (wrap64 (x6_4 + 1)) ((bt a0 x6_4) == 47) x8_1 x9_5) else (some false)))) = some r := by rw [if_neg (show ¬ (false = true) by decide)] at H; exact H
                                  clear H
                                  have H := H1
                                  clear H1
                                  by_cases c21 : ((bt a0 x6_4) = 47)
                                  · rw [if_pos c21] at H
                                    have c21b0 : ((bt a0 x6_4) == 47) = true := beq_iff_eq.mpr c21
                                    have c21b1 : ((bt a0 x6_4) != 47) = false := bne_eq_false_iff_eq.mpr c21
                                    clear c21
                                    have H' := Aside0.mk H
                                    clear H
                                    have p16 : 0 ≤ (x6_4 : Int) := of_decide_eq_true (by first | (with_reducible assumption) | assumption)
                                    have q16 : x6_4 < (a0.size : Int) := of_decide_eq_true (by first | (with_reducible assumption) | assumption)
                                    have hx16 := bt_at a0 x6_4
                                    replace p16 := eq_true p16
                                    replace q16 := eq_true q16
                                    go_wp2
                                    repeat (go_quiet (fail); try go_wp2)
                                    go_roundg k4
                                    case measure => have := HK1.out; have := HJ5.out; have := HJ9.out; have := HK4.out; omega
                                    case rel => exact ⟨(wrap64 (x6_4 + 1)), (((bt a0 x6_4) == 47)), (by first | rfl | (simp; done) | (simp [*]; done)), (by first | rfl | (simp; done) | (simp [*]; done)), H', ⟨by have := HK1.out; have := HJ5.out; have := HJ9.out; have := HK4.out; omega⟩, ⟨by (with_reducible repeat (first | apply Kd.R_alloc | apply Kd.R_drewN | apply Kd.R_drew)); exact HO_3.out⟩, ⟨by repeat (first | (with_reducible first | exact HB.out | apply below_alloc | apply pw_below_drewN | apply below_drew1) | exact HB.out)⟩⟩
                                  · rw [if_neg c21] at H
                                    have c21b0 : ((bt a0 x6_4) == 47) = false := beq_eq_false_iff_ne.mpr c21
                                    have c21b1 : ((bt a0 x6_4) != 47) = true := bne_iff_ne.mpr c21
                                    by_cases c22 : (bt a0 x6_4) = 32
                                    · rw [if_pos c22] at H
                                      have c22b0 : ((bt a0 x6_4) == 32) = true := beq_iff_eq.mpr c22
                                      have c22b1 : ((bt a0 x6_4) != 32) = false := bne_eq_false_iff_eq.mpr c22
                                      clear c22
                                      have H' := Aside0.mk H
                                      clear H
                                      have p16 : 0 ≤ (x6_4 : Int) := of_decide_eq_true (by first | (with_reducible assumption) | assumption)
                                      have q16 : x6_4 < (a0.size : Int) := of_decide_eq_true (by first | (with_reducible assumption) | assumption)
                                      have hx16 := bt_at a0 x6_4
                                      replace p16 := eq_true p16
                                      replace q16 := eq_true q16
                                      go_wp2
                                      repeat (go_quiet (fail); try go_wp2)
                                      go_roundg k4
                                      case measure => have := HK1.out; have := HJ5.out; have := HJ9.out; have := HK4.out; omega
                                      case rel => exact ⟨(wrap64 (x6_4 + 1)), (((bt a0 x6_4) == 47)), (by first | rfl | (simp; done) | (simp [*]; done)), (by first | rfl | (simp; done) | (simp [*]; done)), H', ⟨by have := HK1.out; have := HJ5.out; have := HJ9.out; have := HK4.out; omega⟩, ⟨by (with_reducible repeat (first | apply Kd.R_alloc | apply Kd.R_drewN | apply Kd.R_drew)); exact HO_3.out⟩, ⟨by repeat (first | (with_reducible first | exact HB.out | apply below_alloc | apply pw_below_drewN | apply below_drew1) | exact HB.out)⟩⟩
                                    · rw [if_neg c22] at H
                                      have c22b0 : ((bt a0 x6_4) == 32) = false := beq_eq_false_iff_ne.mpr c22
                                      have c22b1 : ((bt a0 x6_4) != 32) = true := bne_iff_ne.mpr c22
                                      by_cases c23 : (bt a0 x6_4) = 9
                                      · rw [if_pos c23] at H
                                        have c23b0 : ((bt a0 x6_4) == 9) = true := beq_iff_eq.mpr c23
                                        have c23b1 : ((bt a0 x6_4) != 9) = false := bne_eq_false_iff_eq.mpr c23
                                        clear c23
                                        have H' := Aside0.mk H
                                        clear H
                                        have p16 : 0 ≤ (x6_4 : Int) := of_decide_eq_true (by first | (with_reducible assumption) | assumption)
                                        have q16 : x6_4 < (a0.size : Int) := of_decide_eq_true (by first | (with_reducible assumption) | assumption)
                                        have hx16 := bt_at a0 x6_4
                                        replace p16 := eq_true p16
                                        replace q16 := eq_true q16
                                        go_wp2
                                        repeat (go_quiet (fail); try go_wp2)
                                        go_roundg k4
                                        case measure => have := HK1.out; have := HJ5.out; have := HJ9.out; have := HK4.out; omega
                                        case rel => exact ⟨(wrap64 (x6_4 + 1)), (((bt a0 x6_4) == 47)), (by first | rfl | (simp; done) | (simp [*]; done)), (by first | rfl | (simp; done) | (simp [*]; done)), H', ⟨by have := HK1.out; have := HJ5.out; have := HJ9.out; have := HK4.out; omega⟩, ⟨by (with_reducible repeat (first | apply Kd.R_alloc | apply Kd.R_drewN | apply Kd.R_drew)); exact HO_3.out⟩, ⟨by repeat (first | (with_reducible first | exact HB.out | apply below_alloc | apply pw_below_drewN | apply below_drew1) | exact HB.out)⟩⟩
                                      · rw [if_neg c23] at H
                                        have c23b0 : ((bt a0 x6_4) == 9) = false := beq_eq_false_iff_ne.mpr c23
                                        have c23b1 : ((bt a0 x6_4) != 9) = true := bne_iff_ne.mpr c23
                                        obtain rfl := Option.some.inj H
                                        have p16 : 0 ≤ (x6_4 : Int) := of_decide_eq_true (by first | (with_reducible assumption) | assumption)
                                        have q16 : x6_4 < (a0.size : Int) := of_decide_eq_true (by first | (with_reducible assumption) | assumption)
                                        have hx16 := bt_at a0 x6_4
                                        replace p16 := eq_true p16
                                        replace q16 := eq_true q16
                                        go_wp2
                                        repeat (go_quiet (fail); try go_wp2)
                                        go_ret
                                        exact ⟨by first | rfl | (simp [errW_none, errW_some] <;> rfl) | (simp [*, errW_none, errW_some] <;> rfl), by repeat (first | (with_reducible first | exact HB.out | apply below_alloc | apply pw_below_drewN | apply below_drew1) | exact HB.out)⟩
                            · rw [if_neg c15] at H
                              exact absurd H (by simp)
                          · rw [if_neg c14] at H
                            exact absurd H (by simp)
                        · rw [if_neg c13] at H
                          have c13b0 : decide (x6_4 < x9_5) = false := decide_eq_false c13
                          clear c13
                          have HC24 := Aside0.mk H
                          clear H
                          go_upto_region 20 with (fail)
                          repeat (go_quiet (fail); go_upto_region 20 with (fail))
                          go_cut [96] (fun v96 wc => ∃ (kq : Nat) (x96_23 : Bool), v96 = .bool x96_23 ∧ Aside0 (affluxlaw11_LexStands.j4 kq a0 t161 x6_4 x7_4 x8_1 x96_23 = some r) ∧ Aside0 (kq ≤ k4) ∧ Aside0 (Kd.R k28 28 wc w.heap.size (fun _ => True) (.slice Ao7 t161.length co7) t161) ∧ Aside0 (Below w.heap.size w wc))
                          case first =>
                            have H := HC24.out
                            clear HC24
                            by_cases c25 : x7_4 = true
                            · subst c25
                              have H1 : (if x8_1 < (t161.length : Int) then (affluxlaw11_LexStands.j4 k4 a0 t161 x6_4 true x8_1 true) else (affluxlaw11_LexStands.j4 k4 a0 t161 x6_4 true x8_1 (x8_1 == (t161.length : Int)))) = some r := by rw [if_pos rfl] at H; exact H
                              clear H
                              have H := H1
                              clear H1
                              by_cases c26 : x8_1 < (t161.length : Int)
                              · rw [if_pos c26] at H
                                have c26b0 : decide (x8_1 < (t161.length : Int)) = true := decide_eq_true c26
                                clear c26
                                (first | rw [c26b0] | (simp only [i64_w, i32_w]; rw [c26b0]) | skip)
                                have H' := Aside0.mk H
                                clear H
                                go_wp2
                                repeat (go_quiet (fail); try go_wp2)
                                go_meet
                                case rel => exact ⟨_, (true), (by first | rfl | (simp; done) | (simp [*]; done)), H', ⟨by have := HK1.out; have := HJ5.out; have := HJ9.out; have := HK4.out; first | omega | exact Nat.le_refl _⟩, ⟨by (with_reducible repeat (first | apply Kd.R_alloc | apply Kd.R_drewN | apply Kd.R_drew)); exact HO_3.out⟩, ⟨by repeat (first | (with_reducible first | exact HB.out | apply below_alloc | apply pw_below_drewN | apply below_drew1) | exact HB.out)⟩⟩
                              · rw [if_neg c26] at H
                                have c26b0 : decide (x8_1 < (t161.length : Int)) = false := decide_eq_false c26
                                clear c26
                                (first | rw [c26b0] | (simp only [i64_w, i32_w]; rw [c26b0]) | skip)
                                have H' := Aside0.mk H
                                clear H
                                go_wp2
                                repeat (go_quiet (fail); try go_wp2)
                                go_meet
                                case rel => exact ⟨_, ((x8_1 == (t161.length : Int))), (by first | rfl | (simp; done) | (simp [*]; done)), H', ⟨by have := HK1.out; have := HJ5.out; have := HJ9.out; have := HK4.out; first | omega | exact Nat.le_refl _⟩, ⟨by (with_reducible repeat (first | apply Kd.R_alloc | apply Kd.R_drewN | apply Kd.R_drew)); exact HO_3.out⟩, ⟨by repeat (first | (with_reducible first | exact HB.out | apply below_alloc | apply pw_below_drewN | apply below_drew1) | exact HB.out)⟩⟩
                            · replace c25 := Bool.eq_false_iff.mpr c25
                              subst c25
                              have H1 : (affluxlaw11_LexStands.j4 k4 a0 t161 x6_4 false x8_1 (x8_1 == (t161.length : Int))) = some r := by rw [if_neg (show ¬ (false = true) by decide)] at H; exact H
                              clear H
                              have H := H1
                              clear H1
                              have H' := Aside0.mk H
                              clear H
                              go_wp2
                              repeat (go_quiet (fail); try go_wp2)
                              go_meet
                              case rel => exact ⟨_, ((x8_1 == (t161.length : Int))), (by first | rfl | (simp; done) | (simp [*]; done)), H', ⟨by have := HK1.out; have := HJ5.out; have := HJ9.out; have := HK4.out; first | omega | exact Nat.le_refl _⟩, ⟨by (with_reducible repeat (first | apply Kd.R_alloc | apply Kd.R_drewN | apply Kd.R_drew)); exact HO_3.out⟩, ⟨by repeat (first | (with_reducible first | exact HB.out | apply below_alloc | apply pw_below_drewN | apply below_drew1) | exact HB.out)⟩⟩
                          case rest =>
                            clear HC24
                            try clear c1
                            try clear p1
                            try clear q1
                            try clear hx1
                            try clear c2
                            try clear p2
                            try clear c3
                            try clear c3b0
                            try clear c3b1
                            try clear c5
                            try clear c5b0
                            try clear p6
                            try clear c8
                            try clear c8b0
                            try clear c9
                            try clear c9b0
                            try clear c11
                            try clear c11b0
                            try clear c12
                            try clear c13
                            try clear c13b0
                            try clear c14
                            try clear c14b0
                            try clear c15
                            try clear c15b0
                            try clear p16
                            try clear q16
                            try clear hx16
                            try clear c17
                            try clear c17b0
                            try clear c17b1
                            try clear c18
                            try clear c18b0
                            try clear c18b1
                            try clear c19
                            try clear c19b0
                            try clear c19b1
                            try clear c20
                            try clear c21
                            try clear c21b0
                            try clear c21b1
                            try clear c22
                            try clear c22b0
                            try clear c22b1
                            try clear c23
                            try clear c23b0
                            try clear c23b1
                            try clear c25
                            try clear c26
                            try clear c26b0
                            try clear hx168_0
                            try clear hx168_1
                            try clear hx168_2
                            try clear hx168_3
                            try clear p1
                            try clear p16
                            try clear p168
                            try clear p2
                            try clear q1
                            try clear q16
                            try clear q168
                            obtain ⟨kq, x96_23, rfl, HA, HJ23, HO_3, HB⟩ := hcut
                            cases kq with
                            | zero => exact absurd HA.out (by simp [affluxlaw11_LexStands.j4])
                            | succ kj23 =>
                              have H := HA.out
                              clear HA
                              simp only [affluxlaw11_LexStands.j4] at H
                              by_cases c27 : x96_23 = true
                              · subst c27
                                have H1 : (if x8_1 = (t161.length : Int) then ((affluxlaw11_awake.f).bind fun t169 => (some t169)) else (some false)) = some r := by rw [if_pos rfl] at H; exact H
                                clear H
                                have H := H1
                                clear H1
                                by_cases c28 : x8_1 = (t161.length : Int)
                                · rw [if_pos c28] at H
                                  have c28b0 : (x8_1 == (t161.length : Int)) = true := beq_iff_eq.mpr c28
                                  have c28b1 : (x8_1 != (t161.length : Int)) = false := bne_eq_false_iff_eq.mpr c28
                                  clear c28
                                  replace H := Option.bind_eq_some_iff.mp H
                                  obtain ⟨t169, A290, H⟩ := H
                                  replace H : (some t169) = some r := H
                                  have A29 := Aside0.mk A290
                                  clear A290
                                  obtain rfl := Option.some.inj H
                                  go_wp2_with (first | (go_at_call 7; (with_reducible refine (affluxlaw11_awake.calls  t169 _ A29.out).mono ?_); rintro e w30 ⟨rfl, hb⟩; have n0_ := Aside0.mk (Kd.R_below (by (with_reducible repeat (first | apply Kd.R_alloc | apply Kd.R_drewN | apply Kd.R_drew)); exact HO_3.out) hb); have n1_ := Aside0.mk (below_step (by repeat (first | (with_reducible first | exact HB.out | apply below_alloc | apply pw_below_drewN | apply below_drew1) | exact HB.out)) hb); clear HO_3; clear HB; have HO_3 := n0_; have HB := n1_; clear n0_ n1_; (try clear hb); (try clear hb2); (try clear hk); (try clear hi)))
                                  repeat (go_quiet (first | (go_at_call 7; (with_reducible refine (affluxlaw11_awake.calls  t169 _ A29.out).mono ?_); rintro e w30 ⟨rfl, hb⟩; have n0_ := Aside0.mk (Kd.R_below (by (with_reducible repeat (first | apply Kd.R_alloc | apply Kd.R_drewN | apply Kd.R_drew)); exact HO_3.out) hb); have n1_ := Aside0.mk (below_step (by repeat (first | (with_reducible first | exact HB.out | apply below_alloc | apply pw_below_drewN | apply below_drew1) | exact HB.out)) hb); clear HO_3; clear HB; have HO_3 := n0_; have HB := n1_; clear n0_ n1_; (try clear hb); (try clear hb2); (try clear hk); (try clear hi))); try go_wp2_with (first | (go_at_call 7; (with_reducible refine (affluxlaw11_awake.calls  t169 _ A29.out).mono ?_); rintro e w30 ⟨rfl, hb⟩; have n0_ := Aside0.mk (Kd.R_below (by (with_reducible repeat (first | apply Kd.R_alloc | apply Kd.R_drewN | apply Kd.R_drew)); exact HO_3.out) hb); have n1_ := Aside0.mk (below_step (by repeat (first | (with_reducible first | exact HB.out | apply below_alloc | apply pw_below_drewN | apply below_drew1) | exact HB.out)) hb); clear HO_3; clear HB; have HO_3 := n0_; have HB := n1_; clear n0_ n1_; (try clear hb); (try clear hb2); (try clear hk); (try clear hi))))
                                  go_ret
                                  exact ⟨by first | rfl | (simp [errW_none, errW_some] <;> rfl) | (simp [*, errW_none, errW_some] <;> rfl), by repeat (first | (with_reducible first | exact HB.out | apply below_alloc | apply pw_below_drewN | apply below_drew1) | exact HB.out)⟩
                                · rw [if_neg c28] at H
                                  have c28b0 : (x8_1 == (t161.length : Int)) = false := beq_eq_false_iff_ne.mpr c28
                                  have c28b1 : (x8_1 != (t161.length : Int)) = true := bne_iff_ne.mpr c28
                                  obtain rfl := Option.some.inj H
                                  go_wp2
                                  repeat (go_quiet (fail); try go_wp2)
                                  go_ret
                                  exact ⟨by first | rfl | (simp [errW_none, errW_some] <;> rfl) | (simp [*, errW_none, errW_some] <;> rfl), by repeat (first | (with_reducible first | exact HB.out | apply below_alloc | apply pw_below_drewN | apply below_drew1) | exact HB.out)⟩
                              · replace c27 := Bool.eq_false_iff.mpr c27
                                subst c27
                                have H1 : (if 0 ≤ x8_1 then (if x8_1 < (t161.length : Int) then (if ((rd_T28 t161 x8_1).f0) = 2 then (affluxlaw11_LexStands.l2 kj23 a0 t161 x6_4 x7_4 x8_1 (wrap64 ((((rd_T28 t161 x8_1).f1).size : Int) + 2)) 0) else (if (wrap64 (x6_4 + (((rd_T28 t161 x8_1).f1).size : Int))) > (a0.size : Int) then (some false) else (if 0 ≤ x6_4 then (if x6_4 ≤ (wrap64 (x6_4 + (((rd_T28 t161 x8_1).f1).size : Int))) then (if (wrap64 (x6_4 + (((rd_T28 t161 x8_1).f1).size : Int))) ≤ (a0.size : Int) then (if (a0.extract (x6_4 : Int).toNat ((wrap64 (x6_4 + (((rd_T28 t161 x8_1).f1).size : Int))) : Int).toNat).toList = ((rd_T28 t161 x8_1).f1).toList then (affluxlaw11_LexStands.l0 kj23 a0 t161 (wrap64 (x6_4 + (((rd_T28 t161 x8_1).f1).size : Int))) x7_4 (wrap64 (x8_1 + 1))) else (some false)) else (none)) else (none)) else (none)))) else (none)) else (none)) = some r := by rw [if_neg (show ¬ (false = true) by decide)] at H; exact H
                                clear H
                                have H := H1
                                clear H1
                                by_cases c31 : 0 ≤ x8_1
                                · rw [if_pos c31] at H
                                  have c31b0 : decide (0 ≤ x8_1) = true := decide_eq_true c31
                                  clear c31
                                  by_cases c32 : x8_1 < (t161.length : Int)
                                  · rw [if_pos c32] at H
                                    have c32b0 : decide (x8_1 < (t161.length : Int)) = true := decide_eq_true c32
                                    clear c32
                                    by_cases c33 : ((rd_T28 t161 x8_1).f0) = 2
                                    · rw [if_pos c33] at H
                                      have c33b0 : (((rd_T28 t161 x8_1).f0) == 2) = true := beq_iff_eq.mpr c33
                                      have c33b1 : (((rd_T28 t161 x8_1).f0) != 2) = false := bne_eq_false_iff_eq.mpr c33
                                      clear c33
                                      have H' := Aside0.mk H
                                      clear H
                                      have p170 : 0 ≤ (x8_1 : Int) := of_decide_eq_true (by first | (with_reducible assumption) | assumption)
                                      have q170 : x8_1 < (t161.length : Int) := of_decide_eq_true (by first | (with_reducible assumption) | assumption)
                                      obtain ⟨ad170, e170, hx170_0, hx170_1, hx170_2, hx170_3⟩ := at_T28 (Kd.R_reads' HO_3.out).2.2 x8_1 p170 q170
                                      cases e170
                                      replace p170 := eq_true p170
                                      replace q170 := eq_true q170
                                      have p171 : 0 ≤ (x8_1 : Int) := of_decide_eq_true (by first | (with_reducible assumption) | assumption)
                                      have q171 : x8_1 < (t161.length : Int) := of_decide_eq_true (by first | (with_reducible assumption) | assumption)
                                      obtain ⟨ad171, e171, hx171_0, hx171_1, hx171_2, hx171_3⟩ := at_T28 (Kd.R_reads' HO_3.out).2.2 x8_1 p171 q171
                                      obtain rfl : ad170 = ad171 := (by injection e171)
                                      replace p171 := eq_true p171
                                      replace q171 := eq_true q171
                                      go_wp2
                                      repeat (go_quiet (fail); try go_wp2)
                                      go_loopg [11, 12] kj23 (fun kq v11 v12 w' => ∃ (x11_6 : Int) (x12_6 : Int), v11 = .int .i64 x11_6 ∧ v12 = .int .i64 x12_6 ∧ Aside0 (affluxlaw11_LexStands.l2 kq a0 t161 x6_4 x7_4 x8_1 x11_6 x12_6 = some r) ∧ Aside0 (kq ≤ kj23) ∧ Aside0 (Kd.R k28 28 w' w.heap.size (fun _ => True) (.slice (some ad170) t161.length co7) t161) ∧ Aside0 (Below w.heap.size w w'))
                                      case atStart => exact ⟨(wrap64 ((((rd_T28 t161 x8_1).f1).size : Int) + 2)), (0), (by first | rfl | (simp; done) | (simp [*]; done)), (by first | rfl | (simp; done) | (simp [*]; done)), H', ⟨Nat.le_refl _⟩, ⟨by (with_reducible repeat (first | apply Kd.R_alloc | apply Kd.R_drewN | apply Kd.R_drew)); exact HO_3.out⟩, ⟨by repeat (first | (with_reducible first | exact HB.out | apply below_alloc | apply pw_below_drewN | apply below_drew1) | exact HB.out)⟩⟩
                                      case round =>
                                        clear H'
                                        try clear c1
                                        try clear p1
                                        try clear q1
                                        try clear hx1
                                        try clear c2
                                        try clear p2
                                        try clear c3
                                        try clear c3b0
                                        try clear c3b1
                                        try clear c5
                                        try clear c5b0
                                        try clear p6
                                        try clear c8
                                        try clear c8b0
                                        try clear c9
                                        try clear c9b0
                                        try clear c11
                                        try clear c11b0
                                        try clear c12
                                        try clear c13
                                        try clear c13b0
                                        try clear c14
                                        try clear c14b0
                                        try clear c15
                                        try clear c15b0
                                        try clear p16
                                        try clear q16
                                        try clear hx16
                                        try clear c17
                                        try clear c17b0
                                        try clear c17b1
                                        try clear p17
                                        try clear q17
                                        try clear hx17
                                        try clear c18
                                        try clear c18b0
                                        try clear c18b1
                                        try clear c19
                                        try clear c19b0
                                        try clear c19b1
                                        try clear c20
                                        try clear c21
                                        try clear c21b0
                                        try clear c21b1
                                        try clear c22
                                        try clear c22b0
                                        try clear c22b1
                                        try clear c23
                                        try clear c23b0
                                        try clear c23b1
                                        try clear c25
                                        try clear c26
                                        try clear c26b0
                                        try clear c27
                                        try clear c28
                                        try clear c28b0
                                        try clear c28b1
                                        try clear c31
                                        try clear c31b0
                                        try clear c32
                                        try clear c32b0
                                        try clear c33
                                        try clear c33b0
                                        try clear c33b1
                                        try clear hx168_0
                                        try clear hx168_1
                                        try clear hx168_2
                                        try clear hx168_3
                                        try clear hx170_0
                                        try clear hx170_1
                                        try clear hx170_2
                                        try clear hx170_3
                                        try clear hx171_0
                                        try clear hx171_1
                                        try clear hx171_2
                                        try clear hx171_3
                                        try clear p1
                                        try clear p16
                                        try clear p168
                                        try clear p170
                                        try clear p171
                                        try clear p2
                                        try clear p6
                                        try clear q1
                                        try clear q16
                                        try clear q168
                                        try clear q170
                                        try clear q171
                                        obtain ⟨x11_6, x12_6, rfl, rfl, HA, HK6, HO_3, HB⟩ := hrel
                                        cases gk with
                                        | zero => exact absurd HA.out (by simp [affluxlaw11_LexStands.l2])
                                        | succ k6 =>
                                          have H := HA.out
                                          clear HA
                                          simp only [affluxlaw11_LexStands.l2] at H
                                          by_cases c34 : 0 ≤ x8_1
                                          · rw [if_pos c34] at H
                                            have c34b0 : decide (0 ≤ x8_1) = true := decide_eq_true c34
                                            clear c34
                                            by_cases c35 : x8_1 < (t161.length : Int)
                                            · rw [if_pos c35] at H
                                              have c35b0 : decide (x8_1 < (t161.length : Int)) = true := decide_eq_true c35
                                              clear c35
                                              by_cases c36 : x12_6 < (((rd_T28 t161 x8_1).f1).size : Int)
                                              · rw [if_pos c36] at H
                                                have c36b0 : decide (x12_6 < (((rd_T28 t161 x8_1).f1).size : Int)) = true := decide_eq_true c36
                                                clear c36
                                                by_cases c37 : 0 ≤ x12_6
                                                · rw [if_pos c37] at H
                                                  have c37b0 : decide (0 ≤ x12_6) = true := decide_eq_true c37
                                                  clear c37
                                                  by_cases c39 : (bt ((rd_T28 t161 x8_1).f1) x12_6) = 39
                                                  · rw [if_pos c39] at H
                                                    have c39b0 : ((bt ((rd_T28 t161 x8_1).f1) x12_6) == 39) = true := beq_iff_eq.mpr c39
                                                    have c39b1 : ((bt ((rd_T28 t161 x8_1).f1) x12_6) != 39) = false := bne_eq_false_iff_eq.mpr c39
                                                    clear c39
                                                    have H' := Aside0.mk H
                                                    clear H
                                                    have p172 : 0 ≤ (x8_1 : Int) := of_decide_eq_true (by first | (with_reducible assumption) | assumption)
                                                    have q172 : x8_1 < (t161.length : Int) := of_decide_eq_true (by first | (with_reducible assumption) | assumption)
                                                    obtain ⟨ad172, e172, hx172_0, hx172_1, hx172_2, hx172_3⟩ := at_T28 (Kd.R_reads' HO_3.out).2.2 x8_1 p172 q172
                                                    obtain rfl : ad170 = ad172 := (by injection e172)
                                                    replace p172 := eq_true p172
                                                    replace q172 := eq_true q172
                                                    have p173 : 0 ≤ (x8_1 : Int) := of_decide_eq_true (by first | (with_reducible assumption) | assumption)
                                                    have q173 : x8_1 < (t161.length : Int) := of_decide_eq_true (by first | (with_reducible assumption) | assumption)
                                                    obtain ⟨ad173, e173, hx173_0, hx173_1, hx173_2, hx173_3⟩ := at_T28 (Kd.R_reads' HO_3.out).2.2 x8_1 p173 q173
                                                    obtain rfl : ad170 = ad173 := (by injection e173)
                                                    replace p173 := eq_true p173
                                                    replace q173 := eq_true q173
                                                    have p38 : 0 ≤ (x12_6 : Int) := of_decide_eq_true (by first | (with_reducible assumption) | assumption)
                                                    have q38 : x12_6 < (((rd_T28 t161 x8_1).f1).size : Int) := of_decide_eq_true (by first | (with_reducible assumption) | assumption)
                                                    have hx38 := bt_at ((rd_T28 t161 x8_1).f1) x12_6
                                                    replace p38 := eq_true p38
                                                    replace q38 := eq_true q38
                                                    go_wp2
                                                    repeat (go_quiet (fail); try go_wp2)
                                                    go_roundg k6
                                                    case measure => have := HK1.out; have := HJ5.out; have := HJ9.out; have := HK4.out; have := HJ23.out; have := HK6.out; omega
                                                    case rel => exact ⟨(wrap64 (x11_6 + 1)), (wrap64 (x12_6 + 1)), (by first | rfl | (simp; done) | (simp [*]; done)), (by first | rfl | (simp; done) | (simp [*]; done)), H', ⟨by have := HK1.out; have := HJ5.out; have := HJ9.out; have := HK4.out; have := HJ23.out; have := HK6.out; omega⟩, ⟨by (with_reducible repeat (first | apply Kd.R_alloc | apply Kd.R_drewN | apply Kd.R_drew)); exact HO_3.out⟩, ⟨by repeat (first | (with_reducible first | exact HB.out | apply below_alloc | apply pw_below_drewN | apply below_drew1) | exact HB.out)⟩⟩
                                                  · rw [if_neg c39] at H
                                                    have c39b0 : ((bt ((rd_T28 t161 x8_1).f1) x12_6) == 39) = false := beq_eq_false_iff_ne.mpr c39
                                                    have c39b1 : ((bt ((rd_T28 t161 x8_1).f1) x12_6) != 39) = true := bne_iff_ne.mpr c39
                                                    have H' := Aside0.mk H
                                                    clear H
                                                    have p172 : 0 ≤ (x8_1 : Int) := of_decide_eq_true (by first | (with_reducible assumption) | assumption)
                                                    have q172 : x8_1 < (t161.length : Int) := of_decide_eq_true (by first | (with_reducible assumption) | assumption)
                                                    obtain ⟨ad172, e172, hx172_0, hx172_1, hx172_2, hx172_3⟩ := at_T28 (Kd.R_reads' HO_3.out).2.2 x8_1 p172 q172
                                                    obtain rfl : ad170 = ad172 := (by injection e172)
                                                    replace p172 := eq_true p172
                                                    replace q172 := eq_true q172
                                                    have p173 : 0 ≤ (x8_1 : Int) := of_decide_eq_true (by first | (with_reducible assumption) | assumption)
                                                    have q173 : x8_1 < (t161.length : Int) := of_decide_eq_true (by first | (with_reducible assumption) | assumption)
                                                    obtain ⟨ad173, e173, hx173_0, hx173_1, hx173_2, hx173_3⟩ := at_T28 (Kd.R_reads' HO_3.out).2.2 x8_1 p173 q173
                                                    obtain rfl : ad170 = ad173 := (by injection e173)
                                                    replace p173 := eq_true p173
                                                    replace q173 := eq_true q173
                                                    have p38 : 0 ≤ (x12_6 : Int) := of_decide_eq_true (by first | (with_reducible assumption) | assumption)
                                                    have q38 : x12_6 < (((rd_T28 t161 x8_1).f1).size : Int) := of_decide_eq_true (by first | (with_reducible assumption) | assumption)
                                                    have hx38 := bt_at ((rd_T28 t161 x8_1).f1) x12_6
                                                    replace p38 := eq_true p38
                                                    replace q38 := eq_true q38
                                                    go_wp2
                                                    repeat (go_quiet (fail); try go_wp2)
                                                    go_roundg k6
                                                    case measure => have := HK1.out; have := HJ5.out; have := HJ9.out; have := HK4.out; have := HJ23.out; have := HK6.out; omega
                                                    case rel => exact ⟨(x11_6), (wrap64 (x12_6 + 1)), (by first | rfl | (simp; done) | (simp [*]; done)), (by first | rfl | (simp; done) | (simp [*]; done)), H', ⟨by have := HK1.out; have := HJ5.out; have := HJ9.out; have := HK4.out; have := HJ23.out; have := HK6.out; omega⟩, ⟨by (with_reducible repeat (first | apply Kd.R_alloc | apply Kd.R_drewN | apply Kd.R_drew)); exact HO_3.out⟩, ⟨by repeat (first | (with_reducible first | exact HB.out | apply below_alloc | apply pw_below_drewN | apply below_drew1) | exact HB.out)⟩⟩
                                                · rw [if_neg c37] at H
                                                  exact absurd H (by simp)
                                              · rw [if_neg c36] at H
                                                have c36b0 : decide (x12_6 < (((rd_T28 t161 x8_1).f1).size : Int)) = false := decide_eq_false c36
                                                clear c36
                                                have H' := Aside0.mk H
                                                clear H
                                                have p172 : 0 ≤ (x8_1 : Int) := of_decide_eq_true (by first | (with_reducible assumption) | assumption)
                                                have q172 : x8_1 < (t161.length : Int) := of_decide_eq_true (by first | (with_reducible assumption) | assumption)
                                                obtain ⟨ad172, e172, hx172_0, hx172_1, hx172_2, hx172_3⟩ := at_T28 (Kd.R_reads' HO_3.out).2.2 x8_1 p172 q172
                                                obtain rfl : ad170 = ad172 := (by injection e172)
                                                replace p172 := eq_true p172
                                                replace q172 := eq_true q172
                                                go_wp2
                                                repeat (go_quiet (fail); try go_wp2)
                                                go_roundg k6
                                                case measure => have := HK1.out; have := HJ5.out; have := HJ9.out; have := HK4.out; have := HJ23.out; have := HK6.out; omega
                                                case rel => exact ⟨(wrap64 (x6_4 + x11_6)), (x7_4), (wrap64 (x8_1 + 1)), (by first | rfl | (simp; done) | (simp [*]; done)), (by first | rfl | (simp; done) | (simp [*]; done)), (by first | rfl | (simp; done) | (simp [*]; done)), H', ⟨by have := HK1.out; have := HJ5.out; have := HJ9.out; have := HK4.out; have := HJ23.out; have := HK6.out; omega⟩, ⟨by (with_reducible repeat (first | apply Kd.R_alloc | apply Kd.R_drewN | apply Kd.R_drew)); exact HO_3.out⟩, ⟨by repeat (first | (with_reducible first | exact HB.out | apply below_alloc | apply pw_below_drewN | apply below_drew1) | exact HB.out)⟩⟩
                                            · rw [if_neg c35] at H
                                              exact absurd H (by simp)
                                          · rw [if_neg c34] at H
                                            exact absurd H (by simp)
                                    · rw [if_neg c33] at H
                                      have c33b0 : (((rd_T28 t161 x8_1).f0) == 2) = false := beq_eq_false_iff_ne.mpr c33
                                      have c33b1 : (((rd_T28 t161 x8_1).f0) != 2) = true := bne_iff_ne.mpr c33
                                      by_cases c40 : (wrap64 (x6_4 + (((rd_T28 t161 x8_1).f1).size : Int))) > (a0.size : Int)
                                      · rw [if_pos c40] at H
                                        have c40b0 : decide ((a0.size : Int) < (wrap64 (x6_4 + (((rd_T28 t161 x8_1).f1).size : Int)))) = true := decide_eq_true c40
                                        clear c40
                                        obtain rfl := Option.some.inj H
                                        have p170 : 0 ≤ (x8_1 : Int) := of_decide_eq_true (by first | (with_reducible assumption) | assumption)
                                        have q170 : x8_1 < (t161.length : Int) := of_decide_eq_true (by first | (with_reducible assumption) | assumption)
                                        obtain ⟨ad170, e170, hx170_0, hx170_1, hx170_2, hx170_3⟩ := at_T28 (Kd.R_reads' HO_3.out).2.2 x8_1 p170 q170
                                        cases e170
                                        replace p170 := eq_true p170
                                        replace q170 := eq_true q170
                                        have p171 : 0 ≤ (x8_1 : Int) := of_decide_eq_true (by first | (with_reducible assumption) | assumption)
                                        have q171 : x8_1 < (t161.length : Int) := of_decide_eq_true (by first | (with_reducible assumption) | assumption)
                                        obtain ⟨ad171, e171, hx171_0, hx171_1, hx171_2, hx171_3⟩ := at_T28 (Kd.R_reads' HO_3.out).2.2 x8_1 p171 q171
                                        obtain rfl : ad170 = ad171 := (by injection e171)
                                        replace p171 := eq_true p171
                                        replace q171 := eq_true q171
                                        go_wp2
                                        repeat (go_quiet (fail); try go_wp2)
                                        go_ret
                                        exact ⟨by first | rfl | (simp [errW_none, errW_some] <;> rfl) | (simp [*, errW_none, errW_some] <;> rfl), by repeat (first | (with_reducible first | exact HB.out | apply below_alloc | apply pw_below_drewN | apply below_drew1) | exact HB.out)⟩
                                      · rw [if_neg c40] at H
                                        have c40b0 : decide ((a0.size : Int) < (wrap64 (x6_4 + (((rd_T28 t161 x8_1).f1).size : Int)))) = false := decide_eq_false c40
                                        clear c40
                                        by_cases c41 : 0 ≤ x6_4
                                        · rw [if_pos c41] at H
                                          have c41b0 := eq_true c41
                                          have c41b1 : decide (0 ≤ x6_4) = true := decide_eq_true c41
                                          clear c41
                                          by_cases c42 : x6_4 ≤ (wrap64 (x6_4 + (((rd_T28 t161 x8_1).f1).size : Int)))
                                          · rw [if_pos c42] at H
                                            have c42b0 := eq_true c42
                                            have c42b1 : decide (x6_4 ≤ (wrap64 (x6_4 + (((rd_T28 t161 x8_1).f1).size : Int)))) = true := decide_eq_true c42
                                            by_cases c43 : (wrap64 (x6_4 + (((rd_T28 t161 x8_1).f1).size : Int))) ≤ (a0.size : Int)
                                            · rw [if_pos c43] at H
                                              have c43b0 := eq_true c43
                                              have c43b1 : decide ((wrap64 (x6_4 + (((rd_T28 t161 x8_1).f1).size : Int))) ≤ (a0.size : Int)) = true := decide_eq_true c43
                                              by_cases c44 : (a0.extract (x6_4 : Int).toNat ((wrap64 (x6_4 + (((rd_T28 t161 x8_1).f1).size : Int))) : Int).toNat).toList = ((rd_T28 t161 x8_1).f1).toList
                                              · rw [if_pos c44] at H
                                                have c44b0 : ((a0.extract (x6_4 : Int).toNat ((wrap64 (x6_4 + (((rd_T28 t161 x8_1).f1).size : Int))) : Int).toNat).toList == ((rd_T28 t161 x8_1).f1).toList) = true := beq_iff_eq.mpr c44
                                                have c44b1 : ((a0.extract (x6_4 : Int).toNat ((wrap64 (x6_4 + (((rd_T28 t161 x8_1).f1).size : Int))) : Int).toNat).toList != ((rd_T28 t161 x8_1).f1).toList) = false := bne_eq_false_iff_eq.mpr c44
                                                clear c44
                                                have H' := Aside0.mk H
                                                clear H
                                                have p170 : 0 ≤ (x8_1 : Int) := of_decide_eq_true (by first | (with_reducible assumption) | assumption)
                                                have q170 : x8_1 < (t161.length : Int) := of_decide_eq_true (by first | (with_reducible assumption) | assumption)
                                                obtain ⟨ad170, e170, hx170_0, hx170_1, hx170_2, hx170_3⟩ := at_T28 (Kd.R_reads' HO_3.out).2.2 x8_1 p170 q170
                                                cases e170
                                                replace p170 := eq_true p170
                                                replace q170 := eq_true q170
                                                have p171 : 0 ≤ (x8_1 : Int) := of_decide_eq_true (by first | (with_reducible assumption) | assumption)
                                                have q171 : x8_1 < (t161.length : Int) := of_decide_eq_true (by first | (with_reducible assumption) | assumption)
                                                obtain ⟨ad171, e171, hx171_0, hx171_1, hx171_2, hx171_3⟩ := at_T28 (Kd.R_reads' HO_3.out).2.2 x8_1 p171 q171
                                                obtain rfl : ad170 = ad171 := (by injection e171)
                                                replace p171 := eq_true p171
                                                replace q171 := eq_true q171
                                                have p174 : 0 ≤ (x8_1 : Int) := of_decide_eq_true (by first | (with_reducible assumption) | assumption)
                                                have q174 : x8_1 < (t161.length : Int) := of_decide_eq_true (by first | (with_reducible assumption) | assumption)
                                                obtain ⟨ad174, e174, hx174_0, hx174_1, hx174_2, hx174_3⟩ := at_T28 (Kd.R_reads' HO_3.out).2.2 x8_1 p174 q174
                                                obtain rfl : ad170 = ad174 := (by injection e174)
                                                replace p174 := eq_true p174
                                                replace q174 := eq_true q174
                                                go_wp2
                                                repeat (go_quiet (fail); try go_wp2)
                                                go_roundg kj23
                                                case measure => have := HK1.out; have := HJ5.out; have := HJ9.out; have := HK4.out; have := HJ23.out; omega
                                                case rel => exact ⟨(wrap64 (x6_4 + (((rd_T28 t161 x8_1).f1).size : Int))), (x7_4), (wrap64 (x8_1 + 1)), (by first | rfl | (simp; done) | (simp [*]; done)), (by first | rfl | (simp; done) | (simp [*]; done)), (by first | rfl | (simp; done) | (simp [*]; done)), H', ⟨by have := HK1.out; have := HJ5.out; have := HJ9.out; have := HK4.out; have := HJ23.out; omega⟩, ⟨by (with_reducible repeat (first | apply Kd.R_alloc | apply Kd.R_drewN | apply Kd.R_drew)); exact HO_3.out⟩, ⟨by repeat (first | (with_reducible first | exact HB.out | apply below_alloc | apply pw_below_drewN | apply below_drew1) | exact HB.out)⟩⟩
                                              · rw [if_neg c44] at H
                                                have c44b0 : ((a0.extract (x6_4 : Int).toNat ((wrap64 (x6_4 + (((rd_T28 t161 x8_1).f1).size : Int))) : Int).toNat).toList == ((rd_T28 t161 x8_1).f1).toList) = false := beq_eq_false_iff_ne.mpr c44
                                                have c44b1 : ((a0.extract (x6_4 : Int).toNat ((wrap64 (x6_4 + (((rd_T28 t161 x8_1).f1).size : Int))) : Int).toNat).toList != ((rd_T28 t161 x8_1).f1).toList) = true := bne_iff_ne.mpr c44
                                                obtain rfl := Option.some.inj H
                                                have p170 : 0 ≤ (x8_1 : Int) := of_decide_eq_true (by first | (with_reducible assumption) | assumption)
                                                have q170 : x8_1 < (t161.length : Int) := of_decide_eq_true (by first | (with_reducible assumption) | assumption)
                                                obtain ⟨ad170, e170, hx170_0, hx170_1, hx170_2, hx170_3⟩ := at_T28 (Kd.R_reads' HO_3.out).2.2 x8_1 p170 q170
                                                cases e170
                                                replace p170 := eq_true p170
                                                replace q170 := eq_true q170
                                                have p171 : 0 ≤ (x8_1 : Int) := of_decide_eq_true (by first | (with_reducible assumption) | assumption)
                                                have q171 : x8_1 < (t161.length : Int) := of_decide_eq_true (by first | (with_reducible assumption) | assumption)
                                                obtain ⟨ad171, e171, hx171_0, hx171_1, hx171_2, hx171_3⟩ := at_T28 (Kd.R_reads' HO_3.out).2.2 x8_1 p171 q171
                                                obtain rfl : ad170 = ad171 := (by injection e171)
                                                replace p171 := eq_true p171
                                                replace q171 := eq_true q171
                                                have p174 : 0 ≤ (x8_1 : Int) := of_decide_eq_true (by first | (with_reducible assumption) | assumption)
                                                have q174 : x8_1 < (t161.length : Int) := of_decide_eq_true (by first | (with_reducible assumption) | assumption)
                                                obtain ⟨ad174, e174, hx174_0, hx174_1, hx174_2, hx174_3⟩ := at_T28 (Kd.R_reads' HO_3.out).2.2 x8_1 p174 q174
                                                obtain rfl : ad170 = ad174 := (by injection e174)
                                                replace p174 := eq_true p174
                                                replace q174 := eq_true q174
                                                go_wp2
                                                repeat (go_quiet (fail); try go_wp2)
                                                go_ret
                                                exact ⟨by first | rfl | (simp [errW_none, errW_some] <;> rfl) | (simp [*, errW_none, errW_some] <;> rfl), by repeat (first | (with_reducible first | exact HB.out | apply below_alloc | apply pw_below_drewN | apply below_drew1) | exact HB.out)⟩
                                            · rw [if_neg c43] at H
                                              exact absurd H (by simp)
                                          · rw [if_neg c42] at H
                                            exact absurd H (by simp)
                                        · rw [if_neg c41] at H
                                          exact absurd H (by simp)
                                  · rw [if_neg c32] at H
                                    exact absurd H (by simp)
                                · rw [if_neg c31] at H
                                  exact absurd H (by simp)
        · rw [if_neg c5] at H
          have c5b0 : decide (x8_1 ≤ (t161.length : Int)) = false := decide_eq_false c5
          clear c5
          replace H := Option.bind_eq_some_iff.mp H
          obtain ⟨t167, A450, H⟩ := H
          replace H : (some t167) = some r := H
          have A45 := Aside0.mk A450
          clear A450
          obtain rfl := Option.some.inj H
          obtain ⟨Ao46, co46, eo46⟩ := Kd.R_slice HO_3.out
          subst eo46
          go_wp2_with (first | (go_at_call 7; (with_reducible refine (affluxlaw11_awake.calls  t167 _ A45.out).mono ?_); rintro e w47 ⟨rfl, hb⟩; have n0_ := Aside0.mk (Kd.R_below (by (with_reducible repeat (first | apply Kd.R_alloc | apply Kd.R_drewN | apply Kd.R_drew)); exact HO_3.out) hb); have n1_ := Aside0.mk (below_step (by repeat (first | (with_reducible first | exact HB.out | apply below_alloc | apply pw_below_drewN | apply below_drew1) | exact HB.out)) hb); clear HO_3; clear HB; have HO_3 := n0_; have HB := n1_; clear n0_ n1_; (try clear hb); (try clear hb2); (try clear hk); (try clear hi)))
          repeat (go_quiet (first | (go_at_call 7; (with_reducible refine (affluxlaw11_awake.calls  t167 _ A45.out).mono ?_); rintro e w47 ⟨rfl, hb⟩; have n0_ := Aside0.mk (Kd.R_below (by (with_reducible repeat (first | apply Kd.R_alloc | apply Kd.R_drewN | apply Kd.R_drew)); exact HO_3.out) hb); have n1_ := Aside0.mk (below_step (by repeat (first | (with_reducible first | exact HB.out | apply below_alloc | apply pw_below_drewN | apply below_drew1) | exact HB.out)) hb); clear HO_3; clear HB; have HO_3 := n0_; have HB := n1_; clear n0_ n1_; (try clear hb); (try clear hb2); (try clear hk); (try clear hi))); try go_wp2_with (first | (go_at_call 7; (with_reducible refine (affluxlaw11_awake.calls  t167 _ A45.out).mono ?_); rintro e w47 ⟨rfl, hb⟩; have n0_ := Aside0.mk (Kd.R_below (by (with_reducible repeat (first | apply Kd.R_alloc | apply Kd.R_drewN | apply Kd.R_drew)); exact HO_3.out) hb); have n1_ := Aside0.mk (below_step (by repeat (first | (with_reducible first | exact HB.out | apply below_alloc | apply pw_below_drewN | apply below_drew1) | exact HB.out)) hb); clear HO_3; clear HB; have HO_3 := n0_; have HB := n1_; clear n0_ n1_; (try clear hb); (try clear hb2); (try clear hk); (try clear hi))))
          go_ret
          exact ⟨by first | rfl | (simp [errW_none, errW_some] <;> rfl) | (simp [*, errW_none, errW_some] <;> rfl), by repeat (first | (with_reducible first | exact HB.out | apply below_alloc | apply pw_below_drewN | apply below_drew1) | exact HB.out)⟩
  · rw [if_neg c3] at H
    have c3b0 : (t163 == 0) = false := beq_eq_false_iff_ne.mpr c3
    have c3b1 : (t163 != 0) = true := bne_iff_ne.mpr c3
    by_cases c48 : (t161.length : Int) = 0
    · rw [if_pos c48] at H
      have c48b0 : ((t161.length : Int) == 0) = true := beq_iff_eq.mpr c48
      have c48b1 : ((t161.length : Int) != 0) = false := bne_eq_false_iff_eq.mpr c48
      clear c48
      replace H := Option.bind_eq_some_iff.mp H
      obtain ⟨t166, A490, H⟩ := H
      replace H : (some t166) = some r := H
      have A49 := Aside0.mk A490
      clear A490
      obtain rfl := Option.some.inj H
      go_enter Try.func3, Try.ntmps3
      go_wp2_with (first | (go_at_call 6; (with_reducible refine (lex_Words.calls k a0 t161 t162 t163 _ A2.out).mono ?_); rintro e w50 ⟨v164, rfl, ho0, hb⟩; have n0_ := Aside0.mk (Kd.R_lower ho0 (below_size (by repeat (first | (with_reducible first | exact HB.out | apply below_alloc | apply pw_below_drewN | apply below_drew1) | exact HB.out)))); have n1_ := Aside0.mk (below_step (by repeat (first | (with_reducible first | exact HB.out | apply below_alloc | apply pw_below_drewN | apply below_drew1) | exact HB.out)) hb); clear HB; have HO165 := n0_; have HB := n1_; clear n0_ n1_; (try clear hb); (try clear hb2); (try clear hk); (try clear hi); (try clear ho0); obtain ⟨Ao51, co51, eo51⟩ := Kd.R_slice HO165.out; subst eo51) | (go_at_call 7; (with_reducible refine (affluxlaw11_awake.calls  t166 _ A49.out).mono ?_); rintro e w52 ⟨rfl, hb⟩; have n0_ := Aside0.mk (Kd.R_below (by (with_reducible repeat (first | apply Kd.R_alloc | apply Kd.R_drewN | apply Kd.R_drew)); exact HO165.out) hb); have n1_ := Aside0.mk (below_step (by repeat (first | (with_reducible first | exact HB.out | apply below_alloc | apply pw_below_drewN | apply below_drew1) | exact HB.out)) hb); clear HO165; clear HB; have HO165 := n0_; have HB := n1_; clear n0_ n1_; (try clear hb); (try clear hb2); (try clear hk); (try clear hi)))
      repeat (go_quiet (first | (go_at_call 6; (with_reducible refine (lex_Words.calls k a0 t161 t162 t163 _ A2.out).mono ?_); rintro e w50 ⟨v164, rfl, ho0, hb⟩; have n0_ := Aside0.mk (Kd.R_lower ho0 (below_size (by repeat (first | (with_reducible first | exact HB.out | apply below_alloc | apply pw_below_drewN | apply below_drew1) | exact HB.out)))); have n1_ := Aside0.mk (below_step (by repeat (first | (with_reducible first | exact HB.out | apply below_alloc | apply pw_below_drewN | apply below_drew1) | exact HB.out)) hb); clear HB; have HO165 := n0_; have HB := n1_; clear n0_ n1_; (try clear hb); (try clear hb2); (try clear hk); (try clear hi); (try clear ho0); obtain ⟨Ao51, co51, eo51⟩ := Kd.R_slice HO165.out; subst eo51) | (go_at_call 7; (with_reducible refine (affluxlaw11_awake.calls  t166 _ A49.out).mono ?_); rintro e w52 ⟨rfl, hb⟩; have n0_ := Aside0.mk (Kd.R_below (by (with_reducible repeat (first | apply Kd.R_alloc | apply Kd.R_drewN | apply Kd.R_drew)); exact HO165.out) hb); have n1_ := Aside0.mk (below_step (by repeat (first | (with_reducible first | exact HB.out | apply below_alloc | apply pw_below_drewN | apply below_drew1) | exact HB.out)) hb); clear HO165; clear HB; have HO165 := n0_; have HB := n1_; clear n0_ n1_; (try clear hb); (try clear hb2); (try clear hk); (try clear hi))); try go_wp2_with (first | (go_at_call 6; (with_reducible refine (lex_Words.calls k a0 t161 t162 t163 _ A2.out).mono ?_); rintro e w50 ⟨v164, rfl, ho0, hb⟩; have n0_ := Aside0.mk (Kd.R_lower ho0 (below_size (by repeat (first | (with_reducible first | exact HB.out | apply below_alloc | apply pw_below_drewN | apply below_drew1) | exact HB.out)))); have n1_ := Aside0.mk (below_step (by repeat (first | (with_reducible first | exact HB.out | apply below_alloc | apply pw_below_drewN | apply below_drew1) | exact HB.out)) hb); clear HB; have HO165 := n0_; have HB := n1_; clear n0_ n1_; (try clear hb); (try clear hb2); (try clear hk); (try clear hi); (try clear ho0); obtain ⟨Ao51, co51, eo51⟩ := Kd.R_slice HO165.out; subst eo51) | (go_at_call 7; (with_reducible refine (affluxlaw11_awake.calls  t166 _ A49.out).mono ?_); rintro e w52 ⟨rfl, hb⟩; have n0_ := Aside0.mk (Kd.R_below (by (with_reducible repeat (first | apply Kd.R_alloc | apply Kd.R_drewN | apply Kd.R_drew)); exact HO165.out) hb); have n1_ := Aside0.mk (below_step (by repeat (first | (with_reducible first | exact HB.out | apply below_alloc | apply pw_below_drewN | apply below_drew1) | exact HB.out)) hb); clear HO165; clear HB; have HO165 := n0_; have HB := n1_; clear n0_ n1_; (try clear hb); (try clear hb2); (try clear hk); (try clear hi))))
      go_ret
      exact ⟨by first | rfl | (simp [errW_none, errW_some] <;> rfl) | (simp [*, errW_none, errW_some] <;> rfl), by repeat (first | (with_reducible first | exact HB.out | apply below_alloc | apply pw_below_drewN | apply below_drew1) | exact HB.out)⟩
    · rw [if_neg c48] at H
      have c48b0 : ((t161.length : Int) == 0) = false := beq_eq_false_iff_ne.mpr c48
      have c48b1 : ((t161.length : Int) != 0) = true := bne_iff_ne.mpr c48
      have c48b2 : ¬ (t161 = []) := fun h_ => c48 (by rw [h_]; rfl)
      obtain rfl := Option.some.inj H
      go_enter Try.func3, Try.ntmps3
      go_wp2_with (first | (go_at_call 6; (with_reducible refine (lex_Words.calls k a0 t161 t162 t163 _ A2.out).mono ?_); rintro e w53 ⟨v164, rfl, ho0, hb⟩; have n0_ := Aside0.mk (Kd.R_lower ho0 (below_size (by repeat (first | (with_reducible first | exact HB.out | apply below_alloc | apply pw_below_drewN | apply below_drew1) | exact HB.out)))); have n1_ := Aside0.mk (below_step (by repeat (first | (with_reducible first | exact HB.out | apply below_alloc | apply pw_below_drewN | apply below_drew1) | exact HB.out)) hb); clear HB; have HO165 := n0_; have HB := n1_; clear n0_ n1_; (try clear hb); (try clear hb2); (try clear hk); (try clear hi); (try clear ho0); obtain ⟨Ao54, co54, eo54⟩ := Kd.R_slice HO165.out; subst eo54))
      repeat (go_quiet (first | (go_at_call 6; (with_reducible refine (lex_Words.calls k a0 t161 t162 t163 _ A2.out).mono ?_); rintro e w53 ⟨v164, rfl, ho0, hb⟩; have n0_ := Aside0.mk (Kd.R_lower ho0 (below_size (by repeat (first | (with_reducible first | exact HB.out | apply below_alloc | apply pw_below_drewN | apply below_drew1) | exact HB.out)))); have n1_ := Aside0.mk (below_step (by repeat (first | (with_reducible first | exact HB.out | apply below_alloc | apply pw_below_drewN | apply below_drew1) | exact HB.out)) hb); clear HB; have HO165 := n0_; have HB := n1_; clear n0_ n1_; (try clear hb); (try clear hb2); (try clear hk); (try clear hi); (try clear ho0); obtain ⟨Ao54, co54, eo54⟩ := Kd.R_slice HO165.out; subst eo54)); try go_wp2_with (first | (go_at_call 6; (with_reducible refine (lex_Words.calls k a0 t161 t162 t163 _ A2.out).mono ?_); rintro e w53 ⟨v164, rfl, ho0, hb⟩; have n0_ := Aside0.mk (Kd.R_lower ho0 (below_size (by repeat (first | (with_reducible first | exact HB.out | apply below_alloc | apply pw_below_drewN | apply below_drew1) | exact HB.out)))); have n1_ := Aside0.mk (below_step (by repeat (first | (with_reducible first | exact HB.out | apply below_alloc | apply pw_below_drewN | apply below_drew1) | exact HB.out)) hb); clear HB; have HO165 := n0_; have HB := n1_; clear n0_ n1_; (try clear hb); (try clear hb2); (try clear hk); (try clear hi); (try clear ho0); obtain ⟨Ao54, co54, eo54⟩ := Kd.R_slice HO165.out; subst eo54)))
      go_ret
      exact ⟨by first | rfl | (simp [errW_none, errW_some] <;> rfl) | (simp [*, errW_none, errW_some] <;> rfl), by repeat (first | (with_reducible first | exact HB.out | apply below_alloc | apply pw_below_drewN | apply below_drew1) | exact HB.out)⟩

/-- THE ONE PURE STATEMENT of affluxlaw11_LexStands: yours. -/
def affluxlaw11_LexStands.Pure : Prop := ∀ (a0 : ByteArray), a0.size ≤ 140737488351232 → ∃ k, affluxlaw11_LexStands.f k a0 = some true
theorem affluxlaw11_LexStands.walk (P : affluxlaw11_LexStands.Pure) (a0 : ByteArray) (w : World) (w0 : a0.size ≤ 140737488351232) :
    Calls Try.prog 3 #[.string a0] w fun e w' => e = .returned (.bool true) ∧ Below w.heap.size w w' := by
  obtain ⟨k, h⟩ := P a0 w0
  refine (affluxlaw11_LexStands.calls k a0 true w h).mono ?_
  rintro e w' ⟨rfl, hd⟩
  exact ⟨rfl, hd⟩

end Go.Proofs.Ytchjlcchggeonaa.PLex
