-- printed by a program of this session's over the seat's translation; Lean checks it
import Derived.Test.YtchjlcchggeonaaPLexx0
import Derived.Test.YtchjlcchggeonaaPLexx13
import Derived.Test.YtchjlcchggeonaaPLexx14
namespace Go.Proofs.Ytchjlcchggeonaa.PLex
open Go.RowKit Go.Proofs.YtchjlcchggeonaaW.PrintWords Go.Proofs.YtchjlcchggeonaaW.PrintLast Go.Proofs.YtchjlcchggeonaaW.PrintMore
attribute [local go_sem] max2_int min2_int max_two min_two max_three min_three max_four min_four   -- for this text's walks alone
set_option linter.unusedVariables false
set_option linter.unusedSimpArgs false

/-! ### affluxlaw11_awake: function 7 -/
def AWK_w3 : List S28 := [⟨3, ⟨#[97]⟩, 0, 0⟩, ⟨0, ⟨#[62, 61]⟩, 0, 1⟩, ⟨2, ⟨#[105, 116, 39, 115]⟩, 0, 3⟩]
def AWK_c3 : List Value := [.int .i64 3, .string ⟨#[97]⟩, .int .i64 0, .int .i64 0, .int .i64 0, .string ⟨#[62, 61]⟩, .int .i64 0, .int .i64 1, .int .i64 2, .string ⟨#[105, 116, 39, 115]⟩, .int .i64 0, .int .i64 3]
def AWK_At3 (w : World) (g o : Nat) : Prop := ∀ j u, AWK_c3[j]? = some u → w.cell? ⟨g, o + j, none⟩ = some u
theorem AWK_spot_none {w : World} {a : Addr} {v : Value} (h : w.cell? a = some v) : a.spot = none := by
  unfold World.cell? at h
  split at h
  · split at h
    · cases h
    · rename_i hs; simpa using hs
  · cases h
theorem AWK_add_at (g o j : Nat) : (⟨g, o, none⟩ : Addr).add j = ⟨g, o + j, none⟩ := by unfold Addr.add; split <;> simp_all
theorem AWK_at3 {w : World} {A : Option Addr} {n : Nat} (h : Kd.C k28 w A n AWK_w3) (hn : n = 3) : ∃ g o, A = some ⟨g, o, none⟩ ∧ AWK_At3 w g o := by
  subst hn
  obtain ⟨a0, e0, h00, h01, h02, h03⟩ := at_T28 h 0 (by omega) (by omega)
  obtain ⟨a1, e1, h10, h11, h12, h13⟩ := at_T28 h 1 (by omega) (by omega)
  obtain ⟨a2, e2, h20, h21, h22, h23⟩ := at_T28 h 2 (by omega) (by omega)
  subst e0
  injection e1 with e1; injection e2 with e2
  subst e1 e2
  have hs : a0.spot = none := by
    have := AWK_spot_none h00
    simpa [Addr.add] using this
  obtain ⟨g, o, sp⟩ := a0
  subst hs
  refine ⟨g, o, rfl, fun j u hj => ?_⟩
  simp only [AWK_add_at] at *
  match j, hj with
  | 0, hj => simp [AWK_c3] at hj; subst hj; exact h00
  | 1, hj => simp [AWK_c3] at hj; subst hj; exact h01
  | 2, hj => simp [AWK_c3] at hj; subst hj; exact h02
  | 3, hj => simp [AWK_c3] at hj; subst hj; exact h03
  | 4, hj => simp [AWK_c3] at hj; subst hj; exact h10
  | 5, hj => simp [AWK_c3] at hj; subst hj; exact h11
  | 6, hj => simp [AWK_c3] at hj; subst hj; exact h12
  | 7, hj => simp [AWK_c3] at hj; subst hj; exact h13
  | 8, hj => simp [AWK_c3] at hj; subst hj; exact h20
  | 9, hj => simp [AWK_c3] at hj; subst hj; exact h21
  | 10, hj => simp [AWK_c3] at hj; subst hj; exact h22
  | 11, hj => simp [AWK_c3] at hj; subst hj; exact h23
  | j + 12, hj => simp [AWK_c3] at hj
theorem AWK_At3.below {w w' : World} {g o : Nat} (h : AWK_At3 w g o) (hb : Below w.heap.size w w') : AWK_At3 w' g o := fun j u hj => pw_cell_below hb (h j u hj)
def AWK_ClR (w : World) (e : Ending) (w' : World) : Prop := ∃ B d, e = .returned (.slice (some ⟨B, 0, none⟩) 3 d) ∧ AWK_At3 w' B 0 ∧ Below w.heap.size w w'
set_option maxRecDepth 20000 in
set_option maxHeartbeats 1000000 in
theorem AWK_clone25 (g o c : Nat) (w : World) (h : AWK_At3 w g o) : Calls Try.prog 25 #[.slice (some ⟨g, o, none⟩) 3 c] w (AWK_ClR w) := by
  obtain ⟨i0, hi, hzz⟩ := Option.map_eq_some_iff.1 info28
  simp only [Prod.mk.injEq] at hzz
  obtain ⟨hz0, hz1, hz2⟩ := hzz
  have hE := Lib.run_eql_slice_nil (P := Try.prog) w 22 28 (some ⟨g, o, none⟩) 3 c 0 0 (by kernel_rfl)
  have P0 : Below w.heap.size w (w.alloc (.cells #[] 28)) := by go_grown
  have hX := h.below P0
  have hown : (w.alloc (.cells #[] 28)).ownsRow w.heap.size 28 4 (.slice (some ⟨w.heap.size, 0, none⟩) 0 0) 0 [] :=
    ⟨by simp, .inr ⟨w.heap.size, 0, #[], rfl, Nat.le_refl _, heap_alloc_new w _, Nat.le_refl _, by simp [maxLen], by simp, by simp⟩⟩
  have hnews : ∀ j u, AWK_c3[j]? = some u → (w.alloc (.cells #[] 28)).cell? ((⟨g, o, none⟩ : Addr).add j) = some u := fun j u hj => by rw [AWK_add_at]; exact hX j u hj
  have hnews := Lib.hid hnews
  have hH := Lib.hid h
  clear h hX
  go_enter Try.func25, Try.ntmps25
  go_wp2_with (at_builtin; refine wpList_append_own_at (w.alloc (.cells #[] 28)) rfl (.tmp 5) (.tmp 6) 22 rfl w.heap.size 28 i0 (.agg #[(.int .i64 0), (.string ⟨#[]⟩), (.int .i64 0), (.int .i64 0)]) 4 40 Try.underlying22 hi hz0 hz1 hz2 rfl (by omega) (.slice (some ⟨w.heap.size, 0, none⟩) 0 0) 0 [] rfl hown ⟨g, o, none⟩ 3 c AWK_c3 rfl rfl hnews.out (by decide) (by simp only [maxLen]; omega) (by omega) (by simp) ?_; intro v1 w1 hown1 hg1 _ _)
  go_ret
  have hB := P0.grown hg1 (by simp) (own_base hown)
  rw [Nat.zero_add, List.nil_append] at hown1
  rcases hown1.2 with ⟨rfl, h0⟩ | ⟨g', cap, cur, rfl, _, _, h1, h2, _⟩
  · cases h0
  · refine ⟨_, cap, rfl, fun j u hj => ?_, hB⟩
    have := hown1.cells (g := g') rfl j u hj
    rw [add_plain] at this
    simpa using this
/-- A cursor on the three words. -/
structure AWK_Cu (w : World) (G : Nat) (at_ : Int) : Prop where
  row : ∃ B d, w.heap[G]? = some (.cells #[.int .i64 at_, .int .i64 10, .slice (some ⟨B, 0, none⟩) 3 d] 46 (0, 0)) ∧ AWK_At3 w B 0
theorem AWK_Cu.below {w w' : World} {G : Nat} {a : Int} (h : AWK_Cu w G a) (hb : Below w.heap.size w w') : AWK_Cu w' G a := by
  obtain ⟨B, d, e, h3⟩ := h.row
  exact ⟨B, d, (hb.block _ (blk_lt e)).trans e, h3.below hb⟩
def AWK_OnR (w : World) (e : Ending) (w' : World) : Prop := ∃ G, e = .returned (.pointer (some ⟨G, 0, none⟩)) ∧ w.heap.size ≤ G ∧ AWK_Cu w' G 0 ∧ Below w.heap.size w w'
set_option maxHeartbeats 400000 in
theorem AWK_on15 (g o c : Nat) (w : World) (h : AWK_At3 w g o) : Calls Try.prog 15 #[.slice (some ⟨g, o, none⟩) 3 c, .int .i64 10] w (AWK_OnR w) := by
  go_enter Try.func15, Try.ntmps15
  go_wp2_with fail
  (with_reducible refine (AWK_clone25 g o c _ h).mono ?_)
  rintro e W1 ⟨B, d, rfl, h3, hB⟩
  go_wp2
  go_ret
  have hb : Below W1.heap.size W1 (W1.alloc (.cells #[.int .i64 0, .int .i64 10, .slice (some ⟨B, 0, none⟩) 3 d] 46)) := by go_grown
  exact ⟨W1.heap.size, rfl, hB.size, ⟨B, d, heap_alloc_new W1 _, h3.below hb⟩, hB.trans (hb.mono hB.size)⟩
set_option maxHeartbeats 400000 in
theorem AWK_left12 (G : Nat) (a : Int) (w : World) (h : AWK_Cu w G a) (h0 : 0 ≤ a) (h1 : a ≤ 3) : Calls Try.prog 12 #[.pointer (some ⟨G, 0, none⟩)] w fun e w' => e = .returned (.int .i64 (3 - a)) ∧ Below w.heap.size w w' := by
  obtain ⟨B, d, e, _⟩ := h.row
  have f0 : w.cell? ⟨G, 0, none⟩ = some (.int .i64 a) := (blk_cell e 0).trans rfl
  have f2 : w.cell? ⟨G, 2, none⟩ = some (.slice (some ⟨B, 0, none⟩) 3 d) := (blk_cell e 2).trans rfl
  clear e
  have hs : wrap64 (3 - a) = 3 - a := by unfold wrap64; omega
  go_enter Try.func12, Try.ntmps12
  go_wp2
  go_quiet (fail)
  go_wp2
  go_ret
  exact ⟨by first | rfl | rw [hs], pw_below_drewN (Below.refl _ _) _⟩
set_option maxRecDepth 8000 in
set_option maxHeartbeats 1000000 in
theorem AWK_look16_0 (G : Nat) (w : World) (h : AWK_Cu w G 0) : Calls Try.prog 16 #[.pointer (some ⟨G, 0, none⟩), .int .i64 0] w fun e w' => e = .returned (.agg #[.int .i64 3, .string ⟨#[97]⟩, .int .i64 0, .int .i64 0]) ∧ Below w.heap.size w w' := by
  obtain ⟨B, d, e, h3⟩ := h.row
  have c0 : w.cell? ⟨G, 0, none⟩ = some (.int .i64 0) := (blk_cell e 0).trans rfl
  have c2 : w.cell? ⟨G, 2, none⟩ = some (.slice (some ⟨B, 0, none⟩) 3 d) := (blk_cell e 2).trans rfl
  have f0 : w.cell? ⟨B, 0, none⟩ = some (.int .i64 3) := by have := h3 0 (.int .i64 3) rfl; simpa using this
  have f1 : w.cell? ⟨B, 1, none⟩ = some (.string ⟨#[97]⟩) := by have := h3 1 (.string ⟨#[97]⟩) rfl; simpa using this
  have f2 : w.cell? ⟨B, 2, none⟩ = some (.int .i64 0) := by have := h3 2 (.int .i64 0) rfl; simpa using this
  have f3 : w.cell? ⟨B, 3, none⟩ = some (.int .i64 0) := by have := h3 3 (.int .i64 0) rfl; simpa using this
  have P0 : Below w.heap.size w (w.alloc (.cells #[.int .i64 0, .string ⟨#[]⟩, .int .i64 0, .int .i64 0] 28)) := by go_grown
  have c0 := pw_cell_below P0 c0
  have c2 := pw_cell_below P0 c2
  have f0 := pw_cell_below P0 f0
  have f1 := pw_cell_below P0 f1
  have f2 := pw_cell_below P0 f2
  have f3 := pw_cell_below P0 f3
  have b0 : Hid ((w.alloc (.cells #[.int .i64 0, .string ⟨#[]⟩, .int .i64 0, .int .i64 0] 28)).heap[w.heap.size]? = some (.cells #[.int .i64 0, .string ⟨#[]⟩, .int .i64 0, .int .i64 0] 28 (0, 0))) := heap_alloc_new w _
  have z0 : w.heap.size < (w.alloc (.cells #[.int .i64 0, .string ⟨#[]⟩, .int .i64 0, .int .i64 0] 28)).heap.size := by simp
  clear e h3
  go_enter Try.func16, Try.ntmps16
  go_upto_region 3 with fail
  generalize w.alloc (.cells #[.int .i64 0, .string ⟨#[]⟩, .int .i64 0, .int .i64 0] 28) = X at *
  go_quiet (fail)
  go_upto_region 4 with fail
  have c0 : (X.drewN nq).cell? ⟨G, 0, none⟩ = some (.int .i64 0) := c0
  have c2 : (X.drewN nq).cell? ⟨G, 2, none⟩ = some (.slice (some ⟨B, 0, none⟩) 3 d) := c2
  have f0 : (X.drewN nq).cell? ⟨B, 0, none⟩ = some (.int .i64 3) := f0
  have f1 : (X.drewN nq).cell? ⟨B, 1, none⟩ = some (.string ⟨#[97]⟩) := f1
  have f2 : (X.drewN nq).cell? ⟨B, 2, none⟩ = some (.int .i64 0) := f2
  have f3 : (X.drewN nq).cell? ⟨B, 3, none⟩ = some (.int .i64 0) := f3
  have b0 : Hid ((X.drewN nq).heap[w.heap.size]? = some (.cells #[.int .i64 0, .string ⟨#[]⟩, .int .i64 0, .int .i64 0] 28 (0, 0))) := b0
  have P0 := pw_below_drewN P0 nq
  generalize X.drewN nq = Y at *
  have ww : IntKind.i64.wrap (0 : Int) = 0 := IntWalk.i64_in _ (by omega)
  go_still_tail 13, (by kernel_rfl)
  clear ww
  change wpList _ _ _ _ _ Y.drew
  have b1 : Hid (Y.drew.heap[w.heap.size]? = some (.cells #[.int .i64 0, .string ⟨#[]⟩, .int .i64 0, .int .i64 0] 28 (0, 0))) := b0
  have P1 : Below w.heap.size w Y.drew := P0.drew
  generalize Y.drew = Z at *
  have g0 : Z.cell? ⟨w.heap.size, 0, none⟩ = some (.int .i64 0) := (blk_cell b1.out 0).trans rfl
  have g1 : Z.cell? ⟨w.heap.size, 1, none⟩ = some (.string ⟨#[]⟩) := (blk_cell b1.out 1).trans rfl
  have g2 : Z.cell? ⟨w.heap.size, 2, none⟩ = some (.int .i64 0) := (blk_cell b1.out 2).trans rfl
  have g3 : Z.cell? ⟨w.heap.size, 3, none⟩ = some (.int .i64 0) := (blk_cell b1.out 3).trans rfl
  have q0 := blk_frozen b1.out
  clear c0 c2 f0 f1 f2 f3
  go_wp2
  refine bodyPost_ret (results_cell_row rfl _ _ w.heap.size 28 #[.int .i64 3, .string ⟨#[97]⟩, .int .i64 0, .int .i64 0] (0, 0) _ rfl (blk_put (blk_put (blk_put (blk_put b1.out 0 _ rfl) 1 _ rfl) 2 _ rfl) 3 _ rfl) Try.underlying28 rfl (by kernel_rfl)) rfl ?_
  exact ⟨rfl, below_set (below_set (below_set (below_set P1 (Nat.le_refl _)) (Nat.le_refl _)) (Nat.le_refl _)) (Nat.le_refl _)⟩
set_option maxRecDepth 8000 in
set_option maxHeartbeats 1000000 in
theorem AWK_look16_1 (G : Nat) (w : World) (h : AWK_Cu w G 0) : Calls Try.prog 16 #[.pointer (some ⟨G, 0, none⟩), .int .i64 1] w fun e w' => e = .returned (.agg #[.int .i64 0, .string ⟨#[62, 61]⟩, .int .i64 0, .int .i64 1]) ∧ Below w.heap.size w w' := by
  obtain ⟨B, d, e, h3⟩ := h.row
  have c0 : w.cell? ⟨G, 0, none⟩ = some (.int .i64 0) := (blk_cell e 0).trans rfl
  have c2 : w.cell? ⟨G, 2, none⟩ = some (.slice (some ⟨B, 0, none⟩) 3 d) := (blk_cell e 2).trans rfl
  have f0 : w.cell? ⟨B, 4, none⟩ = some (.int .i64 0) := by have := h3 4 (.int .i64 0) rfl; simpa using this
  have f1 : w.cell? ⟨B, 5, none⟩ = some (.string ⟨#[62, 61]⟩) := by have := h3 5 (.string ⟨#[62, 61]⟩) rfl; simpa using this
  have f2 : w.cell? ⟨B, 6, none⟩ = some (.int .i64 0) := by have := h3 6 (.int .i64 0) rfl; simpa using this
  have f3 : w.cell? ⟨B, 7, none⟩ = some (.int .i64 1) := by have := h3 7 (.int .i64 1) rfl; simpa using this
  have P0 : Below w.heap.size w (w.alloc (.cells #[.int .i64 0, .string ⟨#[]⟩, .int .i64 0, .int .i64 0] 28)) := by go_grown
  have c0 := pw_cell_below P0 c0
  have c2 := pw_cell_below P0 c2
  have f0 := pw_cell_below P0 f0
  have f1 := pw_cell_below P0 f1
  have f2 := pw_cell_below P0 f2
  have f3 := pw_cell_below P0 f3
  have b0 : Hid ((w.alloc (.cells #[.int .i64 0, .string ⟨#[]⟩, .int .i64 0, .int .i64 0] 28)).heap[w.heap.size]? = some (.cells #[.int .i64 0, .string ⟨#[]⟩, .int .i64 0, .int .i64 0] 28 (0, 0))) := heap_alloc_new w _
  have z0 : w.heap.size < (w.alloc (.cells #[.int .i64 0, .string ⟨#[]⟩, .int .i64 0, .int .i64 0] 28)).heap.size := by simp
  clear e h3
  go_enter Try.func16, Try.ntmps16
  go_upto_region 3 with fail
  generalize w.alloc (.cells #[.int .i64 0, .string ⟨#[]⟩, .int .i64 0, .int .i64 0] 28) = X at *
  go_quiet (fail)
  go_upto_region 4 with fail
  have c0 : (X.drewN nq).cell? ⟨G, 0, none⟩ = some (.int .i64 0) := c0
  have c2 : (X.drewN nq).cell? ⟨G, 2, none⟩ = some (.slice (some ⟨B, 0, none⟩) 3 d) := c2
  have f0 : (X.drewN nq).cell? ⟨B, 4, none⟩ = some (.int .i64 0) := f0
  have f1 : (X.drewN nq).cell? ⟨B, 5, none⟩ = some (.string ⟨#[62, 61]⟩) := f1
  have f2 : (X.drewN nq).cell? ⟨B, 6, none⟩ = some (.int .i64 0) := f2
  have f3 : (X.drewN nq).cell? ⟨B, 7, none⟩ = some (.int .i64 1) := f3
  have b0 : Hid ((X.drewN nq).heap[w.heap.size]? = some (.cells #[.int .i64 0, .string ⟨#[]⟩, .int .i64 0, .int .i64 0] 28 (0, 0))) := b0
  have P0 := pw_below_drewN P0 nq
  generalize X.drewN nq = Y at *
  have ww : IntKind.i64.wrap (1 : Int) = 1 := IntWalk.i64_in _ (by omega)
  go_still_tail 13, (by kernel_rfl)
  clear ww
  change wpList _ _ _ _ _ Y.drew
  have b1 : Hid (Y.drew.heap[w.heap.size]? = some (.cells #[.int .i64 0, .string ⟨#[]⟩, .int .i64 0, .int .i64 0] 28 (0, 0))) := b0
  have P1 : Below w.heap.size w Y.drew := P0.drew
  generalize Y.drew = Z at *
  have g0 : Z.cell? ⟨w.heap.size, 0, none⟩ = some (.int .i64 0) := (blk_cell b1.out 0).trans rfl
  have g1 : Z.cell? ⟨w.heap.size, 1, none⟩ = some (.string ⟨#[]⟩) := (blk_cell b1.out 1).trans rfl
  have g2 : Z.cell? ⟨w.heap.size, 2, none⟩ = some (.int .i64 0) := (blk_cell b1.out 2).trans rfl
  have g3 : Z.cell? ⟨w.heap.size, 3, none⟩ = some (.int .i64 0) := (blk_cell b1.out 3).trans rfl
  have q0 := blk_frozen b1.out
  clear c0 c2 f0 f1 f2 f3
  go_wp2
  refine bodyPost_ret (results_cell_row rfl _ _ w.heap.size 28 #[.int .i64 0, .string ⟨#[62, 61]⟩, .int .i64 0, .int .i64 1] (0, 0) _ rfl (blk_put (blk_put (blk_put (blk_put b1.out 0 _ rfl) 1 _ rfl) 2 _ rfl) 3 _ rfl) Try.underlying28 rfl (by kernel_rfl)) rfl ?_
  exact ⟨rfl, below_set (below_set (below_set (below_set P1 (Nat.le_refl _)) (Nat.le_refl _)) (Nat.le_refl _)) (Nat.le_refl _)⟩
theorem AWK_At3.set {w : World} {G : Nat} {g o : Nat} (h : AWK_At3 w g o) {cs : Array Value} (hG : w.heap[G]? = some (.cells cs 46 (0, 0))) (hs : cs.size = 3) (u : Value) : AWK_At3 (w.setCell ⟨G, 0, none⟩ u) g o := by
  have hne : G ≠ g := by
    rintro rfl
    have h11 := h 11 _ rfl
    have h0 : w.cell? ⟨G, o + 11, none⟩ = none := by
      rw [blk_cell hG]
      exact Array.getElem?_eq_none (by omega)
    rw [h0] at h11; cases h11
  intro j v hj
  exact (World.cell?_setCell_far _ _ _ _ hne).trans (h j v hj)
def AWK_TkR (w : World) (G : Nat) (e : Ending) (w' : World) : Prop := e = .returned (.bool true) ∧ AWK_Cu w' G 2 ∧ ∀ b, b ≤ G → b ≤ w.heap.size → Below b w w'
set_option maxHeartbeats 1000000 in
theorem AWK_take11 (G T : Nat) (w : World) (h : AWK_Cu w G 0) (t0 : w.cell? ⟨T, 0, none⟩ = some (.string ⟨#[97]⟩)) (t1 : w.cell? ⟨T, 1, none⟩ = some (.string ⟨#[62, 61]⟩)) : Calls Try.prog 11 #[.pointer (some ⟨G, 0, none⟩), .slice (some ⟨T, 0, none⟩) 2 2] w (AWK_TkR w G) := by
  have s0 : ∀ (W : World), Calls Try.prog 18 #[.agg #[.int .i64 3, .string ⟨#[97]⟩, .int .i64 0, .int .i64 0], .string ⟨#[97]⟩] W fun e w' => e = .returned (.bool true) ∧ Below W.heap.size W w' := fun W => lex_Word_says.calls 3 ⟨#[97]⟩ 0 0 ⟨#[97]⟩ true W (by kernel_rfl)
  have s1 : ∀ (W : World), Calls Try.prog 18 #[.agg #[.int .i64 0, .string ⟨#[62, 61]⟩, .int .i64 0, .int .i64 1], .string ⟨#[62, 61]⟩] W fun e w' => e = .returned (.bool true) ∧ Below W.heap.size W w' := fun W => lex_Word_says.calls 0 ⟨#[62, 61]⟩ 0 1 ⟨#[62, 61]⟩ true W (by kernel_rfl)
  have s0 := Lib.hid s0
  have s1 := Lib.hid s1
  have H := Lib.hid h
  clear h
  go_enter Try.func11, Try.ntmps11
  go_wp2
  go_loopw [9] (fun i wr => ∃ k : Nat, i = .int .i64 k ∧ k ≤ 2 ∧ Below w.heap.size w wr) (fun i _ => 2 - (intOf i).toNat)
  case atStart => exact ⟨0, rfl, by omega, Below.refl _ _⟩
  case round =>
    obtain ⟨k, rfl, hk, bel⟩ := hrel
    have hC := H.out.below bel
    have hC := Lib.hid hC
    have t0 := pw_cell_below bel t0
    have t1 := pw_cell_below bel t1
    rcases (show k = 0 ∨ k = 1 ∨ k = 2 by omega) with rfl | rfl | rfl
    · go_wp2_with fail
      (with_reducible refine (AWK_look16_0 G _ hC.out).mono ?_)
      rintro e W1 ⟨rfl, hB1⟩
      clear t0 t1
      go_wp2_with fail
      (with_reducible refine (s0.out _).mono ?_)
      rintro e W2 ⟨rfl, hB2⟩
      go_wp2
      go_roundw
      case rel => exact ⟨1, rfl, by omega, (bel.trans (hB1.mono bel.size)).trans (hB2.mono (Nat.le_trans bel.size hB1.size))⟩
      case measure => simp [intOf] <;> omega
    · go_wp2_with fail
      (with_reducible refine (AWK_look16_1 G _ hC.out).mono ?_)
      rintro e W1 ⟨rfl, hB1⟩
      clear t0 t1
      go_wp2_with fail
      (with_reducible refine (s1.out _).mono ?_)
      rintro e W2 ⟨rfl, hB2⟩
      go_wp2
      go_roundw
      case rel => exact ⟨2, rfl, by omega, (bel.trans (hB1.mono bel.size)).trans (hB2.mono (Nat.le_trans bel.size hB1.size))⟩
      case measure => simp [intOf] <;> omega
    · obtain ⟨B, d, e, h3⟩ := hC.out.row
      have c0 : wr.cell? ⟨G, 0, none⟩ = some (.int .i64 0) := (blk_cell e 0).trans rfl
      have q0 := blk_frozen e
      have e' := Lib.hid e
      have h3' := Lib.hid h3
      clear e h3 t0 t1
      go_wp2
      go_ret
      refine ⟨rfl, ⟨B, d, blk_put e'.out 0 _ rfl, h3'.out.set e'.out rfl _⟩, fun b hb hb2 => (bel.mono hb2).setCell hb _⟩
theorem AWK_eqA28 (d : Nat) (w : World) (x0 y0 : Int) (x1 y1 : ByteArray) (x2 y2 : Int) (x3 y3 : Int) :
    (Op.equalIn (d + 2) 28 (.agg #[.int .i64 x0, .string x1, .int .i64 x2, .int .i64 x3]) (.agg #[.int .i64 y0, .string y1, .int .i64 y2, .int .i64 y3])).run Try.prog w = .ok (x0 == y0 && (x1.toList == y1.toList && (x2 == y2 && x3 == y3))) w := by
  refine eqA_of Try.underlying28 (by kernel_rfl) ?_
  refine eqf_cons (by rfl) (by go_simp; rfl) (by go_simp; rfl) (by go_simp) ?_
  refine eqf_cons (by rfl) (by go_simp; rfl) (by go_simp; rfl) (by go_simp) ?_
  refine eqf_cons (by rfl) (by go_simp; rfl) (by go_simp; rfl) (by go_simp) ?_
  exact eqf_last (by rfl) (by go_simp; rfl) (by go_simp; rfl) (by go_simp)
attribute [local go_sem high] AWK_eqA28
set_option maxRecDepth 20000 in
set_option maxHeartbeats 1000000 in
theorem AWK_awake7 (w : World) : Calls Try.prog 7 #[] w fun e w' => e = .returned (.bool true) ∧ Below w.heap.size w w' := by
  have hW : ∀ W : World, Calls Try.prog 6 #[.string ⟨#[97, 62, 61, 39, 105, 116, 39, 39, 115, 39]⟩] W fun e w' => ∃ v0_ : Value, e = .returned (.tuple #[v0_, .int .i64 0, .int .i64 0]) ∧ Kd.R k28 28 w' W.heap.size (fun _ => True) v0_ AWK_w3 ∧ Below W.heap.size W w' :=
    fun W => lex_Words.calls 30 ⟨#[97, 62, 61, 39, 105, 116, 39, 39, 115, 39]⟩ AWK_w3 0 0 W (by kernel_rfl)
  have hW := Lib.hid hW
  go_enter Try.func7, Try.ntmps7
  go_wp2_with fail
  (with_reducible refine (hW.out _).mono ?_)
  rintro e W1 ⟨v, rfl, hR, hB1⟩
  obtain ⟨A, c, rfl⟩ := Kd.R_slice hR
  obtain ⟨_, _, hC⟩ := Kd.R_reads' hR
  obtain ⟨g, o, rfl, h3⟩ := AWK_at3 hC rfl
  rw [show AWK_w3.length = 3 from rfl]
  clear hR hC hW
  have h3 := Lib.hid h3
  go_wp2_with fail
  (with_reducible refine (AWK_on15 g o c _ h3.out).mono ?_)
  rintro e W2 ⟨G, rfl, hG, hC, hB2⟩
  have h3 := Lib.hid (h3.out.below hB2)
  have P2 := hB1.trans (hB2.mono hB1.size)
  have hGw : w.heap.size ≤ G := Nat.le_trans hB1.size hG
  have hC := Lib.hid hC
  have d8 : W2.cell? ⟨g, o + 8, none⟩ = some (.int .i64 2) := h3.out 8 _ rfl
  have d9 : W2.cell? ⟨g, o + 9, none⟩ = some (.string ⟨#[105, 116, 39, 115]⟩) := h3.out 9 _ rfl
  have d10 : W2.cell? ⟨g, o + 10, none⟩ = some (.int .i64 0) := h3.out 10 _ rfl
  have d11 : W2.cell? ⟨g, o + 11, none⟩ = some (.int .i64 3) := h3.out 11 _ rfl
  clear hW
  have PA : Below W2.heap.size W2 (W2.alloc (.cells #[.string ⟨#[97]⟩, .string ⟨#[62, 61]⟩] 9)) := by go_grown
  have t0 : (W2.alloc (.cells #[.string ⟨#[97]⟩, .string ⟨#[62, 61]⟩] 9)).cell? ⟨W2.heap.size, 0, none⟩ = some (.string ⟨#[97]⟩) := by go_simp
  have t1 : (W2.alloc (.cells #[.string ⟨#[97]⟩, .string ⟨#[62, 61]⟩] 9)).cell? ⟨W2.heap.size, 1, none⟩ = some (.string ⟨#[62, 61]⟩) := by go_simp
  go_wp2_with fail
  generalize W2.alloc (.cells #[.string ⟨#[97]⟩, .string ⟨#[62, 61]⟩] 9) = W3 at *
  have P3 := P2.trans (PA.mono P2.size)
  (with_reducible refine (AWK_take11 G W2.heap.size _ (hC.out.below PA) t0 t1).mono ?_)
  rintro e W4 ⟨rfl, hC4, hB4⟩
  have P4 := P3.trans (hB4 _ hGw P3.size)
  have hC4 := Lib.hid hC4
  clear t0 t1 d8 d9 d10 d11
  go_wp2_with fail
  (with_reducible refine (AWK_left12 G 2 _ hC4.out (by omega) (by omega)).mono ?_)
  rintro e W5 ⟨rfl, hB5⟩
  go_wp2
  go_ret
  exact ⟨rfl, P4.trans (hB5.mono P4.size)⟩

def affluxlaw11_awake.f : Option Bool := some true
theorem affluxlaw11_awake.calls (r : Bool) (w : World) (h : affluxlaw11_awake.f = some r) :
    Calls Try.prog 7 #[] w fun e w' => e = .returned (.bool r) ∧ Below w.heap.size w w' := by
  obtain rfl := Option.some.inj h
  exact AWK_awake7 w


end Go.Proofs.Ytchjlcchggeonaa.PLex
