-- printed by a program of this session's over the seat's translation; Lean checks it
import Derived.Test.YtchjlcchggeonaaPLexx0
import Derived.Test.YtchjlcchggeonaaPLexx2
import Derived.Test.YtchjlcchggeonaaPLexx12
namespace Go.Proofs.Ytchjlcchggeonaa.PLex
open Go.RowKit Go.Proofs.YtchjlcchggeonaaW.PrintWords Go.Proofs.YtchjlcchggeonaaW.PrintLast Go.Proofs.YtchjlcchggeonaaW.PrintMore
attribute [local go_sem] max2_int min2_int max_two min_two max_three min_three max_four min_four   -- for this text's walks alone
set_option linter.unusedVariables false
set_option linter.unusedSimpArgs false

/-! ### lex_Words: function 6 -/
def lex_Words.l0 : Nat → ByteArray → List (S28) → Int → Option ((List (S28)) × Int × Int)
  | 0, _, _, _ => none
  | k + 1, x0, x5, x6 => if x6 < (x0.size : Int) then (if 0 ≤ x6 then (if x6 ≤ (x0.size : Int) then ((lex_next.f k (x0.extract (x6 : Int).toNat x0.size)).bind fun bt146 => (if bt146.2.2.2.2.2 = true then (if x5.length < 3518437208883 then (if 0 ≤ (wrap64 (x6 + bt146.2.2.2.2.1)) then (if (wrap64 (x6 + bt146.2.2.2.2.1)) ≤ (x0.size : Int) then ((lex_blank.f k (x0.extract ((wrap64 (x6 + bt146.2.2.2.2.1)) : Int).toNat x0.size)).bind fun t156 => (lex_Words.l0 k x0 (x5 ++ [(⟨bt146.1, bt146.2.1, bt146.2.2.1, x6⟩ : S28)]) (wrap64 ((wrap64 (x6 + bt146.2.2.2.2.1)) + t156)))) else (none)) else (none)) else (none)) else (some (([] : List (S28)), x6, 12)))) else (none)) else (none)) else (some (x5, 0, 0))
def lex_Words.f (k : Nat) (a0 : ByteArray) : Option ((List (S28)) × Int × Int) := if (a0.size : Int) > 8000 then (some (([] : List (S28)), 0, 5)) else ((lex_blank.f k a0).bind fun t145 => (lex_Words.l0 k a0 ([] : List (S28)) t145))
theorem lex_Words.mono_l : ∀ k, (∀ y0 y1 y2, LeO (lex_Words.l0 k y0 y1 y2) (lex_Words.l0 (k + 1) y0 y1 y2))
  | 0 => fun _ _ _ r h => by simp [lex_Words.l0] at h
  | k + 1 => by
    have ih0 := lex_Words.mono_l k
    · intro y0 y1 y2
      unfold lex_Words.l0
      repeat' first
      | (with_reducible exact ih0 _ _ _)
      | (with_reducible exact lex_blank.mono _ _)
      | (with_reducible exact lex_next.mono _ _)
      | (with_reducible exact LeO.refl _)
      | (with_reducible exact LeO.none _)
      | (with_reducible refine LeO.ite ?_ ?_)
      | (with_reducible refine LeO.bind ?_ (fun _ => ?_))
      | exact ih0 _ _ _
      | exact lex_blank.mono _ _
      | exact lex_next.mono _ _
      | exact LeO.none _
      | refine LeO.ite ?_ ?_
      | refine LeO.bind ?_ (fun _ => ?_)
theorem lex_Words.mono : ∀ a0 k, LeO (lex_Words.f k a0) (lex_Words.f (k + 1) a0) := by
  intro a0 k
  have ih0 := lex_Words.mono_l k
  unfold lex_Words.f
  repeat' first
      | (with_reducible exact ih0 _ _ _)
      | (with_reducible exact lex_blank.mono _ _)
      | (with_reducible exact lex_next.mono _ _)
      | (with_reducible exact LeO.refl _)
      | (with_reducible exact LeO.none _)
      | (with_reducible refine LeO.ite ?_ ?_)
      | (with_reducible refine LeO.bind ?_ (fun _ => ?_))
      | exact ih0 _ _ _
      | exact lex_blank.mono _ _
      | exact lex_next.mono _ _
      | exact LeO.none _
      | refine LeO.ite ?_ ?_
      | refine LeO.bind ?_ (fun _ => ?_)
set_option maxHeartbeats 8000000 in
set_option maxRecDepth 100000 in
theorem lex_Words.calls (k : Nat) (a0 : ByteArray) (r1 : List (S28)) (r2 : Int) (r3 : Int) (w : World) (h : lex_Words.f k a0 = some (r1, r2, r3)) :
    Calls Try.prog 6 #[.string a0] w fun e w' => ∃ v0_ : Value, e = .returned (.tuple #[v0_, .int .i64 r2, .int .i64 r3]) ∧ Kd.R k28 28 w' w.heap.size (fun _ => True) v0_ r1 ∧ Below w.heap.size w w' := by
  have hu28 := Try.underlying28
  have HB := Aside0.mk (Below.refl w.heap.size w)
  have H : (if (a0.size : Int) > 8000 then (some (([] : List (S28)), 0, 5)) else ((lex_blank.f k a0).bind fun t145 => (lex_Words.l0 k a0 ([] : List (S28)) t145))) = some (r1, r2, r3) := h
  clear h
  by_cases c2 : (a0.size : Int) > 8000
  · rw [if_pos c2] at H
    have c2b0 : decide (8000 < (a0.size : Int)) = true := decide_eq_true c2
    have c2b1 : decide (8000 < a0.size) = true := decide_eq_true (by omega)
    clear c2
    simp only [Option.some.injEq, Prod.mk.injEq] at H
    obtain ⟨rfl, rfl, rfl⟩ := H
    go_enter Try.func6, Try.ntmps6
    go_wp2
    go_ret3
    exact ⟨_, by first | rfl | (simp [errW_none, errW_some] <;> rfl) | (simp [*, errW_none, errW_some] <;> rfl), by first | exact Kd.R_nil _ _ _ _ _ | exact Kd.N_nil _ _ _ _ _ | exact Kd.V_nil _ _ _ _ _ | exact Kd.Q_nil _ _ _ _ _ | exact Kd.S_nil _ _ _ _ _, by repeat (first | (with_reducible first | exact HB.out | apply below_alloc | apply pw_below_drewN | apply below_drew1) | exact HB.out)⟩
  · rw [if_neg c2] at H
    have c2b0 : decide (8000 < (a0.size : Int)) = false := decide_eq_false c2
    have c2b1 : decide (8000 < a0.size) = false := decide_eq_false (by omega)
    clear c2
    replace H := Option.bind_eq_some_iff.mp H
    obtain ⟨t145, A30, H⟩ := H
    replace H : (lex_Words.l0 k a0 ([] : List (S28)) t145) = some (r1, r2, r3) := H
    have A3 := Aside0.mk A30
    clear A30
    have H' := Aside0.mk H
    clear H
    go_enter Try.func6, Try.ntmps6
    go_wp2_with (first | ((with_reducible refine gate_callee (f := 13) rfl ?_); refine goesL_ (some 14) rfl rfl Try.func13 (by kernel_rfl) rfl #[.string a0] rfl (by (try simp only [List.map_toArray, List.map_cons, List.map_nil]); first | done | rfl | (simp only [List.length_drop, List.length_take]; rfl)) ?_; (with_reducible refine (lex_blank.calls k a0 t145 _ A3.out).mono ?_); rintro e w' ⟨rfl, ⟨nd, rfl⟩⟩; refine ⟨_, rfl, ?_⟩))
    go_loopg [5, 6] k (fun kq v5 v6 w' => ∃ (x5_1 : List (S28)) (x6_1 : Int), v6 = .int .i64 x6_1 ∧ Aside0 (lex_Words.l0 kq a0 x5_1 x6_1 = some (r1, r2, r3)) ∧ Aside0 (kq ≤ k) ∧ Aside0 (Kd.R k28 28 w' w.heap.size (fun _ => True) v5 x5_1) ∧ Aside0 (Below w.heap.size w w'))
    case atStart => exact ⟨(([] : List (S28))), (t145), (by first | rfl | (simp; done) | (simp [*]; done)), H', ⟨Nat.le_refl _⟩, ⟨by first | exact Kd.R_nil _ _ _ _ _ | exact Kd.N_nil _ _ _ _ _ | exact Kd.V_nil _ _ _ _ _ | exact Kd.Q_nil _ _ _ _ _ | exact Kd.S_nil _ _ _ _ _⟩, ⟨by repeat (first | (with_reducible first | exact HB.out | apply below_alloc | apply pw_below_drewN | apply below_drew1) | exact HB.out)⟩⟩
    case round =>
      clear H'
      try clear c1
      try clear c2
      try clear c2b0
      try clear c2b1
      try clear p2
      obtain ⟨x5_1, x6_1, rfl, HA, HK1, HO_5, HB⟩ := hrel
      cases gk with
      | zero => exact absurd HA.out (by simp [lex_Words.l0])
      | succ k1 =>
        have H := HA.out
        clear HA
        simp only [lex_Words.l0] at H
        by_cases c4 : x6_1 < (a0.size : Int)
        · rw [if_pos c4] at H
          have c4b0 : decide (x6_1 < (a0.size : Int)) = true := decide_eq_true c4
          clear c4
          by_cases c5 : 0 ≤ x6_1
          · rw [if_pos c5] at H
            have c5b0 := eq_true c5
            have c5b1 : decide (0 ≤ x6_1) = true := decide_eq_true c5
            clear c5
            by_cases c6 : x6_1 ≤ (a0.size : Int)
            · rw [if_pos c6] at H
              have c6b0 := eq_true c6
              have c6b1 : decide (x6_1 ≤ (a0.size : Int)) = true := decide_eq_true c6
              clear c6
              replace H := Option.bind_eq_some_iff.mp H
              obtain ⟨⟨t146, t147, t148, t149, t150, t151⟩, A70, H⟩ := H
              replace H : (if t151 = true then (if x5_1.length < 3518437208883 then (if 0 ≤ (wrap64 (x6_1 + t150)) then (if (wrap64 (x6_1 + t150)) ≤ (a0.size : Int) then ((lex_blank.f k1 (a0.extract ((wrap64 (x6_1 + t150)) : Int).toNat a0.size)).bind fun t156 => (lex_Words.l0 k1 a0 (x5_1 ++ [(⟨t146, t147, t148, x6_1⟩ : S28)]) (wrap64 ((wrap64 (x6_1 + t150)) + t156)))) else (none)) else (none)) else (none)) else (some (([] : List (S28)), x6_1, 12))) = some (r1, r2, r3) := H
              have A7 := Aside0.mk A70
              clear A70
              by_cases c8 : t151 = true
              · subst c8
                have H1 : (if x5_1.length < 3518437208883 then (if 0 ≤ (wrap64 (x6_1 + t150)) then (if (wrap64 (x6_1 + t150)) ≤ (a0.size : Int) then ((lex_blank.f k1 (a0.extract ((wrap64 (x6_1 + t150)) : Int).toNat a0.size)).bind fun t156 => (lex_Words.l0 k1 a0 (x5_1 ++ [(⟨t146, t147, t148, x6_1⟩ : S28)]) (wrap64 ((wrap64 (x6_1 + t150)) + t156)))) else (none)) else (none)) else (none)) = some (r1, r2, r3) := by rw [if_pos rfl] at H; exact H
                clear H
                have H := H1
                clear H1
                by_cases c9 : x5_1.length < 3518437208883
                · rw [if_pos c9] at H
                  have LMc9 := Aside0.mk c9
                  clear c9
                  obtain ⟨y153, hy153⟩ : ∃ y_ : List (S28), y_ = (x5_1 ++ [(⟨t146, t147, t148, x6_1⟩ : S28)]) := ⟨_, rfl⟩
                  replace H : (if 0 ≤ (wrap64 (x6_1 + t150)) then (if (wrap64 (x6_1 + t150)) ≤ (a0.size : Int) then ((lex_blank.f k1 (a0.extract ((wrap64 (x6_1 + t150)) : Int).toNat a0.size)).bind fun t156 => (lex_Words.l0 k1 a0 y153 (wrap64 ((wrap64 (x6_1 + t150)) + t156)))) else (none)) else (none)) = some (r1, r2, r3) := by first | (rw [hy153]; with_reducible exact H) | (have H2_ := (Option.bind_some _ _).symm.trans H; rw [hy153]; with_reducible exact H2_) | (have H2_ := (Option.bind_some _ _).symm.trans H; with_reducible exact H2_) | with_reducible exact H | (rw [hy153]; exact H) | exact H
                  have Ny153 := Aside0.mk hy153
                  clear hy153
                  obtain ⟨ji10, hji10⟩ : ∃ j_ : Int, (wrap64 (x6_1 + t150)) = j_ := ⟨_, rfl⟩
                  replace H : (if 0 ≤ (ji10) then (if (ji10) ≤ (a0.size : Int) then ((lex_blank.f k1 (a0.extract ((ji10) : Int).toNat a0.size)).bind fun t156 => (lex_Words.l0 k1 a0 y153 (wrap64 ((ji10) + t156)))) else (none)) else (none)) = some (r1, r2, r3) := by first | (rw [hji10] at H; exact H) | (simp only [hji10] at H ⊢; exact H)
                  (try rw [hji10] at A7)
                  have hji10w : (IntKind.i64.wrap (x6_1 + t150)) = ji10 := (i64_w _).trans hji10
                  by_cases c11 : 0 ≤ (ji10)
                  · rw [if_pos c11] at H
                    have c11b0 := eq_true c11
                    have c11b1 : decide (0 ≤ (ji10)) = true := decide_eq_true c11
                    clear c11
                    by_cases c12 : (ji10) ≤ (a0.size : Int)
                    · rw [if_pos c12] at H
                      have c12b0 := eq_true c12
                      have c12b1 : decide ((ji10) ≤ (a0.size : Int)) = true := decide_eq_true c12
                      clear c12
                      replace H := Option.bind_eq_some_iff.mp H
                      obtain ⟨t156, A130, H⟩ := H
                      replace H : (lex_Words.l0 k1 a0 y153 (wrap64 ((ji10) + t156))) = some (r1, r2, r3) := H
                      have A13 := Aside0.mk A130
                      clear A130
                      have H' := Aside0.mk H
                      clear H
                      go_upto_region 8 with (first | ((with_reducible refine gate_callee (f := 14) rfl ?_); refine goesL_ (some 29) rfl rfl Try.func14 (by kernel_rfl) rfl #[.string (a0.extract (x6_1 : Int).toNat a0.size)] rfl (by (try simp only [List.map_toArray, List.map_cons, List.map_nil]); first | done | rfl | (simp only [List.length_drop, List.length_take]; rfl)) ?_; (with_reducible refine (lex_next.calls k1 (a0.extract (x6_1 : Int).toNat a0.size) t146 t147 t148 t149 t150 true _ A7.out).mono ?_); rintro e w14 ⟨rfl, hb⟩; refine ⟨_, rfl, ?_⟩; have n0_ := Aside0.mk (Kd.R_below (by (with_reducible repeat (first | apply Kd.R_alloc | apply Kd.R_drewN | apply Kd.R_drew)); exact HO_5.out) hb); have n1_ := Aside0.mk (below_step (by repeat (first | (with_reducible first | exact HB.out | apply below_alloc | apply pw_below_drewN | apply below_drew1) | exact HB.out)) hb); clear HO_5; clear HB; have HO_5 := n0_; have HB := n1_; clear n0_ n1_; (try clear hb); (try clear hb2); (try clear hk); (try clear hi)) | ((with_reducible refine gate_dst (N := 7) rfl ?_); refine box_event ?hg (N := 7) ?hd (cs := #[.int .i64 0, .string (⟨#[]⟩ : ByteArray), .int .i64 0, .int .i64 0]) (t := 28) ?hr ?_; (case hd => rfl); (case hg => rfl); (case hr => first | (go_simp; done) | (go_simp; rfl)); intro gb152 hg w15 hbox hb; have n0_ := Aside0.mk (Kd.R_below (Kd.R_elderB (by (with_reducible repeat (first | apply Kd.R_alloc | apply Kd.R_drewN | apply Kd.R_drew)); exact HO_5.out) gb152 (Nat.le_of_eq hg.symm)) hb); have n1_ := Aside0.mk (below_step (by repeat (first | (with_reducible first | exact HB.out | apply below_alloc | apply pw_below_drewN | apply below_drew1) | exact HB.out)) hb); have n2_ := Aside0.mk (hbox); have n3_ := Aside0.mk ((by rw [hg]; exact (below_size (by repeat (first | (with_reducible first | exact HB.out | apply below_alloc | apply pw_below_drewN | apply below_drew1) | exact HB.out))) : w.heap.size ≤ gb152)); have n4_ := Aside0.mk ((by rw [hg]; exact (below_size (by repeat (first | (with_reducible first | exact HB.out | apply below_alloc | apply pw_below_drewN | apply below_drew1) | exact HB.out))) : w.heap.size ≤ gb152)); clear HO_5; clear HB; have HO_5 := n0_; have HB := n1_; have BK152 := n2_; have GW152 := n3_; have GE152 := n4_; clear n0_ n1_ n2_ n3_ n4_; clear hb hbox hg; have hcz16_0 : w15.cell? ⟨gb152, 0, none⟩ = some (.int .i64 0) := (blk_cell BK152.out 0).trans rfl; have hcz16_1 : w15.cell? ⟨gb152, 1, none⟩ = some (.string (⟨#[]⟩ : ByteArray)) := (blk_cell BK152.out 1).trans rfl; have hcz16_2 : w15.cell? ⟨gb152, 2, none⟩ = some (.int .i64 0) := (blk_cell BK152.out 2).trans rfl; have hcz16_3 : w15.cell? ⟨gb152, 3, none⟩ = some (.int .i64 0) := (blk_cell BK152.out 3).trans rfl; have hfz16_0 := blk_frozen BK152.out 0; have hfz16_1 := blk_frozen BK152.out 1; have hfz16_2 := blk_frozen BK152.out 2; have hfz16_3 := blk_frozen BK152.out 3))
                      go_upto_region 11 with fail
                      have BKX : Aside0 ((((((w15.setCell ⟨gb152, 0, none⟩ (.int .i64 t146)).setCell ⟨gb152, 1, none⟩ (.string t147)).setCell ⟨gb152, 2, none⟩ (.int .i64 t148)).setCell ⟨gb152, 3, none⟩ (.int .i64 t149)).setCell ⟨gb152, 3, none⟩ (.int .i64 x6_1)).heap[gb152]? = some (.cells #[.int .i64 t146, .string t147, .int .i64 t148, .int .i64 x6_1] 28 (0, 0))) := ⟨blk_put (blk_put (blk_put (blk_put (blk_put BK152.out 0 _ rfl) 1 _ rfl) 2 _ rfl) 3 _ rfl) 3 _ rfl⟩
                      have HBX : Aside0 (Below w.heap.size w (((((w15.setCell ⟨gb152, 0, none⟩ (.int .i64 t146)).setCell ⟨gb152, 1, none⟩ (.string t147)).setCell ⟨gb152, 2, none⟩ (.int .i64 t148)).setCell ⟨gb152, 3, none⟩ (.int .i64 t149)).setCell ⟨gb152, 3, none⟩ (.int .i64 x6_1))) := ⟨below_set (below_set (below_set (below_set (below_set HB.out GE152.out) GE152.out) GE152.out) GE152.out) GE152.out⟩
                      have HOX : Aside0 (Kd.R k28 28 (((((w15.setCell ⟨gb152, 0, none⟩ (.int .i64 t146)).setCell ⟨gb152, 1, none⟩ (.string t147)).setCell ⟨gb152, 2, none⟩ (.int .i64 t148)).setCell ⟨gb152, 3, none⟩ (.int .i64 t149)).setCell ⟨gb152, 3, none⟩ (.int .i64 x6_1)) w.heap.size (fun k_ => k_ ≠ gb152) u5 x5_1) := ⟨Kd.R_far (p := ⟨gb152, 3, none⟩) (Kd.R_far (p := ⟨gb152, 3, none⟩) (Kd.R_far (p := ⟨gb152, 2, none⟩) (Kd.R_far (p := ⟨gb152, 1, none⟩) (Kd.R_far (p := ⟨gb152, 0, none⟩) (Kd.R_mono HO_5.out (fun k_ hk => hk.2)) (fun _ hk => hk) _) (fun _ hk => hk) _) (fun _ hk => hk) _) (fun _ hk => hk) _) (fun _ hk => hk) _⟩
                      clear hcz16_0 hcz16_1 hcz16_2 hcz16_3 hfz16_0 hfz16_1 hfz16_2 hfz16_3 HB HO_5 BK152
                      generalize (((((w15.setCell ⟨gb152, 0, none⟩ (.int .i64 t146)).setCell ⟨gb152, 1, none⟩ (.string t147)).setCell ⟨gb152, 2, none⟩ (.int .i64 t148)).setCell ⟨gb152, 3, none⟩ (.int .i64 t149)).setCell ⟨gb152, 3, none⟩ (.int .i64 x6_1)) = X at *
                      have hd0 : X.cell? ⟨gb152, 0, none⟩ = some (.int .i64 t146) := (blk_cell BKX.out 0).trans rfl
                      have hd1 : X.cell? ⟨gb152, 1, none⟩ = some (.string t147) := (blk_cell BKX.out 1).trans rfl
                      have hd2 : X.cell? ⟨gb152, 2, none⟩ = some (.int .i64 t148) := (blk_cell BKX.out 2).trans rfl
                      have hd3 : X.cell? ⟨gb152, 3, none⟩ = some (.int .i64 x6_1) := (blk_cell BKX.out 3).trans rfl
                      go_upto_region 12 with ((with_reducible refine gate_builtin (b := .append) (xs := #[.tmp 38, .tmp 40]) rfl ?_); at_builtin; refine Kd.R_append k28 (w0 := w) w.heap.size rfl (.tmp 38) (.tmp 40) 22 28 (.agg #[(.int .i64 0), (.string ⟨#[]⟩), (.int .i64 0), (.int .i64 0)]) 40 rfl Try.underlying22 info28 rfl (by decide) (by omega) u5 x5_1 (⟨t146, t147, t148, x6_1⟩ : S28) [.int .i64 t146, .string t147, .int .i64 t148, .int .i64 x6_1] (fun k_ => k_ ≠ gb152) (fun _ => False) rfl rfl (k28_mkM _ _ _ (⟨t146, t147, t148, x6_1⟩ : S28)) (fun _ hk => hk.elim) (fun k_ hk => Kd.freshB BKX.out k_ hk) HOX.out HBX.out (below_size HBX.out) (by have := LMc9.out; omega) ?_; intro v154 w17 ho hb hg hat)
                      rw [← Ny153.out] at ho
                      clear HBX HOX BKX hd0 hd1 hd2 hd3 hg hat
                      have HB := Aside0.mk hb
                      have HO155 := Aside0.mk ho
                      clear hb ho
                      go_wp2_with (((with_reducible refine gate_callee (f := 13) rfl ?_); refine goesL_ (some 23) rfl rfl Try.func13 (by kernel_rfl) rfl #[.string (a0.extract ((ji10) : Int).toNat a0.size)] rfl (by (try simp only [List.map_toArray, List.map_cons, List.map_nil]); first | done | (simp only [hji10]; rfl) | rfl | (simp only [List.length_drop, List.length_take]; rfl)) ?_; (with_reducible refine (lex_blank.calls k1 (a0.extract ((ji10) : Int).toNat a0.size) t156 _ A13.out).mono ?_); rintro e w' ⟨rfl, ⟨nd, rfl⟩⟩; refine ⟨_, rfl, ?_⟩))
                      go_roundg k1
                      case measure => have := HK1.out; omega
                      case rel => exact ⟨(y153), (wrap64 ((ji10) + t156)), (by first | rfl | (simp; done) | (simp only [← hji10] <;> (first | rfl | simp)) | (simp [*]; done)), H', ⟨by have := HK1.out; omega⟩, ⟨by (with_reducible repeat (first | apply Kd.R_alloc | apply Kd.R_drewN | apply Kd.R_drew)); exact Kd.R_mono HO155.out (fun _ hk => trivial)⟩, ⟨by repeat (first | (with_reducible first | exact HB.out | apply below_alloc | apply pw_below_drewN | apply below_drew1 | refine below_set ?_ GE152.out) | exact HB.out)⟩⟩
                    · rw [if_neg c12] at H
                      exact absurd H (by simp)
                  · rw [if_neg c11] at H
                    exact absurd H (by simp)
                · rw [if_neg c9] at H
                  exact absurd H (by simp)
              · replace c8 := Bool.eq_false_iff.mpr c8
                subst c8
                have H1 : (some (([] : List (S28)), x6_1, 12)) = some (r1, r2, r3) := by rw [if_neg (show ¬ (false = true) by decide)] at H; exact H
                clear H
                have H := H1
                clear H1
                simp only [Option.some.injEq, Prod.mk.injEq] at H
                obtain ⟨rfl, rfl, rfl⟩ := H
                go_wp2_with (first | ((with_reducible refine gate_callee (f := 14) rfl ?_); refine goesL_ (some 29) rfl rfl Try.func14 (by kernel_rfl) rfl #[.string (a0.extract (x6_1 : Int).toNat a0.size)] rfl (by (try simp only [List.map_toArray, List.map_cons, List.map_nil]); first | done | rfl | (simp only [List.length_drop, List.length_take]; rfl)) ?_; (with_reducible refine (lex_next.calls k1 (a0.extract (x6_1 : Int).toNat a0.size) t146 t147 t148 t149 t150 false _ A7.out).mono ?_); rintro e w18 ⟨rfl, hb⟩; refine ⟨_, rfl, ?_⟩; have n0_ := Aside0.mk (Kd.R_below (by (with_reducible repeat (first | apply Kd.R_alloc | apply Kd.R_drewN | apply Kd.R_drew)); exact HO_5.out) hb); have n1_ := Aside0.mk (below_step (by repeat (first | (with_reducible first | exact HB.out | apply below_alloc | apply pw_below_drewN | apply below_drew1) | exact HB.out)) hb); clear HO_5; clear HB; have HO_5 := n0_; have HB := n1_; clear n0_ n1_; (try clear hb); (try clear hb2); (try clear hk); (try clear hi)) | ((with_reducible refine gate_dst (N := 7) rfl ?_); refine box_event ?hg (N := 7) ?hd (cs := #[.int .i64 0, .string (⟨#[]⟩ : ByteArray), .int .i64 0, .int .i64 0]) (t := 28) ?hr ?_; (case hd => rfl); (case hg => rfl); (case hr => first | (go_simp; done) | (go_simp; rfl)); intro gb152 hg w19 hbox hb; have n0_ := Aside0.mk (Kd.R_below (Kd.R_elderB (by (with_reducible repeat (first | apply Kd.R_alloc | apply Kd.R_drewN | apply Kd.R_drew)); exact HO_5.out) gb152 (Nat.le_of_eq hg.symm)) hb); have n1_ := Aside0.mk (below_step (by repeat (first | (with_reducible first | exact HB.out | apply below_alloc | apply pw_below_drewN | apply below_drew1) | exact HB.out)) hb); have n2_ := Aside0.mk (hbox); have n3_ := Aside0.mk ((by rw [hg]; exact (below_size (by repeat (first | (with_reducible first | exact HB.out | apply below_alloc | apply pw_below_drewN | apply below_drew1) | exact HB.out))) : w.heap.size ≤ gb152)); have n4_ := Aside0.mk ((by rw [hg]; exact (below_size (by repeat (first | (with_reducible first | exact HB.out | apply below_alloc | apply pw_below_drewN | apply below_drew1) | exact HB.out))) : w.heap.size ≤ gb152)); clear HO_5; clear HB; have HO_5 := n0_; have HB := n1_; have BK152 := n2_; have GW152 := n3_; have GE152 := n4_; clear n0_ n1_ n2_ n3_ n4_; clear hb hbox hg; have hcz20_0 : w19.cell? ⟨gb152, 0, none⟩ = some (.int .i64 0) := (blk_cell BK152.out 0).trans rfl; have hcz20_1 : w19.cell? ⟨gb152, 1, none⟩ = some (.string (⟨#[]⟩ : ByteArray)) := (blk_cell BK152.out 1).trans rfl; have hcz20_2 : w19.cell? ⟨gb152, 2, none⟩ = some (.int .i64 0) := (blk_cell BK152.out 2).trans rfl; have hcz20_3 : w19.cell? ⟨gb152, 3, none⟩ = some (.int .i64 0) := (blk_cell BK152.out 3).trans rfl; have hfz20_0 := blk_frozen BK152.out 0; have hfz20_1 := blk_frozen BK152.out 1; have hfz20_2 := blk_frozen BK152.out 2; have hfz20_3 := blk_frozen BK152.out 3))
                go_ret3
                exact ⟨_, by first | rfl | (simp [errW_none, errW_some] <;> rfl) | (simp [*, errW_none, errW_some] <;> rfl), by first | exact Kd.R_nil _ _ _ _ _ | exact Kd.N_nil _ _ _ _ _ | exact Kd.V_nil _ _ _ _ _ | exact Kd.Q_nil _ _ _ _ _ | exact Kd.S_nil _ _ _ _ _, by repeat (first | (with_reducible first | exact HB.out | apply below_alloc | apply pw_below_drewN | apply below_drew1 | refine below_set ?_ GE152.out) | exact HB.out)⟩
            · rw [if_neg c6] at H
              exact absurd H (by simp)
          · rw [if_neg c5] at H
            exact absurd H (by simp)
        · rw [if_neg c4] at H
          have c4b0 : decide (x6_1 < (a0.size : Int)) = false := decide_eq_false c4
          clear c4
          simp only [Option.some.injEq, Prod.mk.injEq] at H
          obtain ⟨rfl, rfl, rfl⟩ := H
          go_wp2
          go_ret3
          exact ⟨_, by first | rfl | (simp [errW_none, errW_some] <;> rfl) | (simp [*, errW_none, errW_some] <;> rfl), by (with_reducible repeat (first | apply Kd.R_alloc | apply Kd.R_drewN | apply Kd.R_drew)); exact HO_5.out, by repeat (first | (with_reducible first | exact HB.out | apply below_alloc | apply pw_below_drewN | apply below_drew1) | exact HB.out)⟩

end Go.Proofs.Ytchjlcchggeonaa.PLex
