import Derived.Test.YtmipifokpogpbaaR9
set_option linter.unusedSimpArgs false
set_option linter.unusedVariables false
namespace Go.Proofs.Ytmipifokpogpbaa.RF
open Go.RowKit Go.Proofs.YtmipifokpogpbaaW.PrintWords Go.Proofs.YtmipifokpogpbaaW.PrintLast Go.Proofs.Ytmipifokpogpbaa.M Go.Proofs.Ytmipifokpogpbaa.R1 Go.Proofs.Ytmipifokpogpbaa.R2 Go.Proofs.Ytmipifokpogpbaa.R3 Go.Proofs.Ytmipifokpogpbaa.R4 Go.Proofs.Ytmipifokpogpbaa.R5 Go.Proofs.Ytmipifokpogpbaa.R6 Go.Proofs.Ytmipifokpogpbaa.R7 Go.Proofs.Ytmipifokpogpbaa.R8 Go.Proofs.Ytmipifokpogpbaa.R9

theorem mul_ok {a b : Int} (a0 : -9223372036854775808 ≤ a) (a1 : a ≤ 9223372036854775807) (b0 : -9223372036854775808 ≤ b) (b1 : b ≤ 9223372036854775807) : (a * b).natAbs ≤ 85070591730234615865843651857942052864 := by
  rw [Int.natAbs_mul]
  exact Nat.mul_le_mul (show a.natAbs ≤ 9223372036854775808 by omega) (show b.natAbs ≤ 9223372036854775808 by omega)
theorem far_ok {x : Int} (h : x.natAbs ≤ 185070591730234615865843651857942052864) : -10 ^ 1000000 < x ∧ x < 10 ^ 1000000 := nat_ten (m := 60) (Nat.le_trans h (by omega)) (by omega)
/-- What Floor answers. -/
def flB (a b q : Int) : Bool := if b < 0 then decide (a - b * q ≤ 0) && decide (b * q + b - a < 0) else decide (0 ≤ a - b * q) && decide (0 < b * q + b - a)
/-- What the orders of a region leave: a new variable, a number, the rest as it was. -/
def FK (V w' : World) (g : Nat) (v : Value) (x : Int) : Prop := V.heap.size ≤ g ∧ w'.heap[g]? = some (.cells #[.bool false, .slice none 0 0] 29 (0, 0)) ∧ Num w' v x ∧ Below V.heap.size V w'
theorem nbox_below {w w' : World} {g : Nat} {x : Int} (h : NBox w g x) (hb : Below w.heap.size w w') : NBox w' g x := h.below hb
/-- A number's sign cell. -/
theorem box_open {w : World} {g : Nat} {x : Int} (h : NBox w g x) : ∃ neg A c, ∃ ds : List Int, w.heap[g]? = some (.cells #[.bool neg, .slice A ds.length c] 29 (0, 0)) ∧ Num w (.agg #[.bool neg, .slice A ds.length c]) x := by
  obtain ⟨neg, A, c, ds, e, hr, h1, h2, h3⟩ := h
  exact ⟨neg, A, c, ds, e, neg, A, c, ds, rfl, hr, h1, h2, h3⟩
theorem box_mk {w : World} {g : Nat} {x : Int} {neg : Bool} {A : Option Addr} {n c : Nat} (H : w.heap[g]? = some (.cells #[.bool neg, .slice A n c] 29 (0, 0))) (N : Num w (.agg #[.bool neg, .slice A n c]) x) : NBox w g x := by
  obtain ⟨a1, a2, a3, a4, a5, a6, a7, a8, a9⟩ := N
  simp at a5
  obtain ⟨rfl, rfl, h, rfl⟩ := a5
  exact ⟨_, _, _, a4, by rw [← h]; exact H, a6, a7, a8, a9⟩
theorem nm_len {neg : Bool} {l : List Int} {x : Int} (h : Nm neg l x) : decide (0 < (l.length : Int)) = decide (x ≠ 0) := by
  have h1 := h.empty
  by_cases hl : l = []
  · have := h1.1 hl; subst hl; simp [this]
  · have h2 : x ≠ 0 := fun e => hl (h1.2 e)
    have h4 : 0 < l.length := List.length_pos_iff.2 hl
    simp [h2]; omega
theorem fl_neg (a b p : Int) : (decide (a - p ≤ 0) && decide (p + b - a < 0)) = (!decide (-(a + -p) < 0) && (!decide (-(p + b + -a) < 0) && decide (-(p + b + -a) ≠ 0))) := by
  rw [Bool.eq_iff_iff]; simp; omega
theorem fl_pos (a b p : Int) : (decide (0 ≤ a - p) && decide (0 < p + b - a)) = (!decide (a + -p < 0) && (!decide (p + b + -a < 0) && decide (p + b + -a ≠ 0))) := by
  rw [Bool.eq_iff_iff]; simp; omega
theorem box_nm {w : World} {g : Nat} {x : Int} (h : NBox w g x) : ∃ neg A c, ∃ ds : List Int, w.heap[g]? = some (.cells #[.bool neg, .slice A ds.length c] 29 (0, 0)) ∧ Nm neg ds x ∧ ds.length ≤ 9223372036854775807 := by
  obtain ⟨neg, A, c, ds, e, hr, h1, h2, h3⟩ := h
  exact ⟨neg, A, c, ds, e, h3, Nat.le_trans h1 h2⟩

set_option maxRecDepth 8000 in
set_option maxHeartbeats 4000000 in
theorem floor (a b q : Int) (w : World) (a0 : -9223372036854775808 ≤ a) (a1 : a ≤ 9223372036854775807) (b0 : -9223372036854775808 ≤ b) (b1 : b ≤ 9223372036854775807) (q0 : -9223372036854775808 ≤ q) (q1 : q ≤ 9223372036854775807) :
    Calls Try.prog 18 #[.int .i64 a, .int .i64 b, .int .i64 q] w fun e w' => e = .returned (.bool (flB a b q)) ∧ Below w.heap.size w w' := by
  have hm := mul_ok b0 b1 q0 q1
  have obq := Lib.hid (far_ok (x := b * q) (by omega))
  have oh := Lib.hid (far_ok (x := b * q + b) (by omega))
  have ol := Lib.hid (far_ok (x := -(b * q)) (by omega))
  have oa := Lib.hid (far_ok (x := a) (by omega))
  have ob := Lib.hid (far_ok (x := b) (by omega))
  have oq := Lib.hid (far_ok (x := q) (by omega))
  have oma := Lib.hid (far_ok (x := -a) (by omega))
  generalize hbq : b * q = p at *
  have Hbq := Lib.hid hbq
  clear hbq
  go_enter Try.func18, Try.ntmps18
  go_wp2_with fail
  (with_reducible refine (of_ b _ b0 b1).mono ?_)
  rintro e W1 ⟨_, rfl, ⟨nb, Ab, cb, db, rfl, hrb, lb, mb, hxb⟩, hBb⟩
  go_wp2_with fail
  (with_reducible refine (of_ q _ q0 q1).mono ?_)
  rintro e W2 ⟨_, rfl, ⟨nq, Aq, cq, dq, rfl, hrq, lq, mq, hxq⟩, hBq⟩
  have Nb : Num W2 (.agg #[.bool nb, .slice Ab db.length cb]) b := ⟨nb, Ab, cb, db, rfl, hrb.below hBq, lb, mb, hxb⟩
  have Nq : Num W2 (.agg #[.bool nq, .slice Aq dq.length cq]) q := ⟨nq, Aq, cq, dq, rfl, hrq, lq, mq, hxq⟩
  go_wp2_with fail
  (with_reducible refine (times _ _ b q _ Nb Nq ob.out.1 ob.out.2 oq.out.1 oq.out.2).mono ?_)
  rintro e W3 ⟨_, rfl, ⟨n7, A7, c7, d7, rfl, hr7, l7, m7, hx7⟩, hB7⟩
  rw [Hbq.out] at hx7
  have P3 : Below w.heap.size w W3 := hBb.trans ((hBq.mono hBb.size).trans (hB7.mono (Nat.le_trans hBb.size hBq.size)))
  have PB : Below w.heap.size w (W3.alloc (.cells #[.bool n7, .slice A7 d7.length c7] 29)) := P3.alloc P3.size _
  have B7 : NBox (W3.alloc (.cells #[.bool n7, .slice A7 d7.length c7] 29)) W3.heap.size p := ⟨n7, A7, c7, d7, get_new _ _ _ rfl, hr7.below (by go_grown), l7, m7, hx7⟩
  have z7 : w.heap.size ≤ W3.heap.size := P3.size
  clear Nb Nq hrb hrq hxb hxq hBb hBq hB7 hr7 P3
  go_upto_region 2 with fail
  generalize W3.alloc (.cells #[.bool n7, .slice A7 d7.length c7] 29) = V2 at *
  generalize W3.heap.size = g7 at *
  clear hx7
  obtain ⟨n7, A7, c7, d7, E7, N70⟩ := box_open B7
  have f70 : V2.cell? ⟨g7, 0, none⟩ = some (.bool n7) := (blk_cell E7 0).trans rfl
  have f71 : V2.cell? ⟨g7, 1, none⟩ = some (.slice A7 d7.length c7) := (blk_cell E7 1).trans rfl
  have H7 := Lib.hid E7
  clear E7
  refine start_ (n := 6) (S := fun w' => w'.cell? ⟨g7, 0, none⟩ = some (.bool n7) ∧ w'.cell? ⟨g7, 1, none⟩ = some (.slice A7 d7.length c7)) (ds := [5]) #[false, false, false, false, false, false] (by kernel_rfl) rfl rfl ⟨f70, f71⟩ (fun hHeld => ?_)
  refine pure_ (i := 1) (N := some 17) (v := ?_) (a' := ?_) #[false, true, false, false, false, false] rfl rfl (by kernel_rfl) (fun _ _ _ h => h) (Or.inl ⟨by rfl, ?_⟩) ?_ ?_
  rotate_left
  · intro w'
    go_simp
    with_reducible rfl
  rotate_left
  · simp only [Act.put, List.setIfInBounds_toArray, List.set_cons_zero, List.set_cons_succ, i64_w, i32_w]
    rfl
  refine take_ (i := 0) (N := some 16) (v := ?_) (a' := ?_) #[true, true, false, false, false, false] rfl rfl (by kernel_rfl) (fun _ _ _ h => h) (Or.inl ⟨by rfl, ?_⟩) hHeld ?_ ?_
  rotate_left
  · rintro w' ⟨s0, s1⟩
    go_simp
    with_reducible rfl
  rotate_left
  · simp only [Act.put, List.setIfInBounds_toArray, List.set_cons_zero, List.set_cons_succ, i64_w, i32_w]
    rfl
  refine join_ (σ := Value × Value × Nat) 1 #[true, true, true, true, true, false] (fun s => [(18, s.1), (19, s.2.1), (8, .pointer (some ⟨s.2.2, 0, none⟩))]) (fun s w' => FK V2 w' s.2.2 s.2.1 (p + b)) ?_ ?_
  rotate_left
  · intro hCont
    refine two_ (i := 2) (j := 4) (Ni := some 18) (Nj := some 8) #[true, true, true, false, false, false] #[true, true, false, false, true, false] rfl rfl rfl rfl (by kernel_rfl) (by decide) (by decide) (fun K hK => ?_) (fun K hK => ?_)
    · skip
      have PP : Below V2.heap.size V2 V2.drew := (Below.refl _ _).drew
      have N7 := N70.below PP
      refine goes_ Try.func15 (by kernel_rfl) rfl #[.int .i64 b] (by rfl) rfl rfl (by simp only [List.map_toArray, List.map_cons, List.map_nil]; rfl) ?_
      with_reducible refine (of_ b _ b0 b1).mono ?_
      rintro e U2_ ⟨v18_, rfl, R22_, BB2_⟩
      refine ⟨_, rfl, ?_⟩
      have PP2_ : Below V2.heap.size V2 U2_ := PP.trans (BB2_.mono PP.size)
      have N72_ := N7.below BB2_
      refine hK.out _ _ ⟨(pw_cell_below PP2_ f70), (pw_cell_below PP2_ f71)⟩ (fun hHeld => ?_)
      clear hK K
      refine norm_ (a' := ?_) ?_ ?_
      rotate_left
      · show Act.put _ (some 18) _ = _
        simp only [Act.put, List.setIfInBounds_toArray, List.set_cons_zero, List.set_cons_succ, i64_w, i32_w]
        rfl
      refine two_ (i := 3) (j := 4) (Ni := some 19) (Nj := some 8) #[true, true, true, true, false, false] #[true, true, true, false, true, false] rfl rfl rfl rfl (by kernel_rfl) (by decide) (by decide) (fun K hK => ?_) (fun K hK => ?_)
      · skip
        refine goes_ Try.func16 (by kernel_rfl) rfl #[.agg #[.bool n7, .slice A7 d7.length c7], v18_] (by rfl) rfl rfl (by simp only [List.map_toArray, List.map_cons, List.map_nil]; rfl) ?_
        with_reducible refine (plus _ _ p b _ N72_ R22_ obq.out.1 obq.out.2 ob.out.1 ob.out.2).mono ?_
        rintro e U2_3_ ⟨v19_, rfl, R32_3_, BB2_3_⟩
        refine ⟨_, rfl, ?_⟩
        have PP2_3_ : Below V2.heap.size V2 U2_3_ := PP2_.trans (BB2_3_.mono PP2_.size)
        have N72_3_ := N72_.below BB2_3_
        have R22_3_ := R22_.below BB2_3_
        refine hK.out _ _ ⟨(pw_cell_below PP2_3_ f70), (pw_cell_below PP2_3_ f71)⟩ (fun hHeld => ?_)
        clear hK K
        refine norm_ (a' := ?_) ?_ ?_
        rotate_left
        · show Act.put _ (some 19) _ = _
          simp only [Act.put, List.setIfInBounds_toArray, List.set_cons_zero, List.set_cons_succ, i64_w, i32_w]
          rfl
        refine one_ (i := 4) (N := some 8) #[true, true, true, true, true, false] rfl rfl (by kernel_rfl) (by decide) (fun K hK => ?_)
        refine value_ (w1 := ?_) (v := ?_) (by rfl) rfl ?_ ?_
        rotate_left 2
        · go_simp
          constructor
          · rfl
          · rfl
        have BB2_3_4_ : Below U2_3_.heap.size U2_3_ (U2_3_.alloc (.cells #[.bool false, .slice none 0 0] 29)) := (Below.refl _ _).alloc (Nat.le_refl _) _
        have PP2_3_4_ : Below V2.heap.size V2 (U2_3_.alloc (.cells #[.bool false, .slice none 0 0] 29)) := PP2_3_.trans (BB2_3_4_.mono PP2_3_.size)
        have N72_3_4_ := N72_3_.below BB2_3_4_
        have R22_3_4_ := R22_3_.below BB2_3_4_
        have R32_3_4_ := R32_3_.below BB2_3_4_
        have GA2_3_4_ : (U2_3_.alloc (.cells #[.bool false, .slice none 0 0] 29)).heap[U2_3_.heap.size]? = some (.cells #[.bool false, .slice none 0 0] 29 (0, 0)) := get_new _ _ _ rfl
        have ZZ2_3_4_ : V2.heap.size ≤ U2_3_.heap.size := PP2_3_.size
        refine hK.out _ _ ⟨(pw_cell_below PP2_3_4_ f70), (pw_cell_below PP2_3_4_ f71)⟩ (fun hHeld => ?_)
        clear hK K
        refine norm_ (a' := ?_) ?_ ?_
        rotate_left
        · show Act.put _ (some 8) _ = _
          simp only [Act.put, List.setIfInBounds_toArray, List.set_cons_zero, List.set_cons_succ, i64_w, i32_w]
          rfl
        exact norm_ (by simp only [putAll, Act.put, List.setIfInBounds_toArray, List.set_cons_zero, List.set_cons_succ]) (hCont (v18_, v19_, U2_3_.heap.size) _ ⟨ZZ2_3_4_, GA2_3_4_, R32_3_4_, PP2_3_4_⟩)
      · skip
        refine value_ (w1 := ?_) (v := ?_) (by rfl) rfl ?_ ?_
        rotate_left 2
        · go_simp
          constructor
          · rfl
          · rfl
        have BB2_4_ : Below U2_.heap.size U2_ (U2_.alloc (.cells #[.bool false, .slice none 0 0] 29)) := (Below.refl _ _).alloc (Nat.le_refl _) _
        have PP2_4_ : Below V2.heap.size V2 (U2_.alloc (.cells #[.bool false, .slice none 0 0] 29)) := PP2_.trans (BB2_4_.mono PP2_.size)
        have N72_4_ := N72_.below BB2_4_
        have R22_4_ := R22_.below BB2_4_
        have GA2_4_ : (U2_.alloc (.cells #[.bool false, .slice none 0 0] 29)).heap[U2_.heap.size]? = some (.cells #[.bool false, .slice none 0 0] 29 (0, 0)) := get_new _ _ _ rfl
        have ZZ2_4_ : V2.heap.size ≤ U2_.heap.size := PP2_.size
        refine hK.out _ _ ⟨(pw_cell_below PP2_4_ f70), (pw_cell_below PP2_4_ f71)⟩ (fun hHeld => ?_)
        clear hK K
        refine norm_ (a' := ?_) ?_ ?_
        rotate_left
        · show Act.put _ (some 8) _ = _
          simp only [Act.put, List.setIfInBounds_toArray, List.set_cons_zero, List.set_cons_succ, i64_w, i32_w]
          rfl
        refine one_ (i := 3) (N := some 19) #[true, true, true, true, true, false] rfl rfl (by kernel_rfl) (by decide) (fun K hK => ?_)
        refine goes_ Try.func16 (by kernel_rfl) rfl #[.agg #[.bool n7, .slice A7 d7.length c7], v18_] (by rfl) rfl rfl (by simp only [List.map_toArray, List.map_cons, List.map_nil]; rfl) ?_
        with_reducible refine (plus _ _ p b _ N72_4_ R22_4_ obq.out.1 obq.out.2 ob.out.1 ob.out.2).mono ?_
        rintro e U2_4_3_ ⟨v19_, rfl, R32_4_3_, BB2_4_3_⟩
        refine ⟨_, rfl, ?_⟩
        have PP2_4_3_ : Below V2.heap.size V2 U2_4_3_ := PP2_4_.trans (BB2_4_3_.mono PP2_4_.size)
        have N72_4_3_ := N72_4_.below BB2_4_3_
        have R22_4_3_ := R22_4_.below BB2_4_3_
        have GA2_4_3_ := (BB2_4_3_.block _ (blk_lt GA2_4_)).trans GA2_4_
        refine hK.out _ _ ⟨(pw_cell_below PP2_4_3_ f70), (pw_cell_below PP2_4_3_ f71)⟩ (fun hHeld => ?_)
        clear hK K
        refine norm_ (a' := ?_) ?_ ?_
        rotate_left
        · show Act.put _ (some 19) _ = _
          simp only [Act.put, List.setIfInBounds_toArray, List.set_cons_zero, List.set_cons_succ, i64_w, i32_w]
          rfl
        exact norm_ (by simp only [putAll, Act.put, List.setIfInBounds_toArray, List.set_cons_zero, List.set_cons_succ]) (hCont (v18_, v19_, U2_.heap.size) _ ⟨ZZ2_4_, GA2_4_3_, R32_4_3_, PP2_4_3_⟩)
    · skip
      have PP : Below V2.heap.size V2 V2.drew := (Below.refl _ _).drew
      have N7 := N70.below PP
      refine value_ (w1 := ?_) (v := ?_) (by rfl) rfl ?_ ?_
      rotate_left 2
      · go_simp
        constructor
        · rfl
        · rfl
      have BB4_ : Below V2.drew.heap.size V2.drew (V2.drew.alloc (.cells #[.bool false, .slice none 0 0] 29)) := (Below.refl _ _).alloc (Nat.le_refl _) _
      have PP4_ : Below V2.heap.size V2 (V2.drew.alloc (.cells #[.bool false, .slice none 0 0] 29)) := PP.trans (BB4_.mono PP.size)
      have N74_ := N7.below BB4_
      have GA4_ : (V2.drew.alloc (.cells #[.bool false, .slice none 0 0] 29)).heap[V2.drew.heap.size]? = some (.cells #[.bool false, .slice none 0 0] 29 (0, 0)) := get_new _ _ _ rfl
      have ZZ4_ : V2.heap.size ≤ V2.drew.heap.size := PP.size
      refine hK.out _ _ ⟨(pw_cell_below PP4_ f70), (pw_cell_below PP4_ f71)⟩ (fun hHeld => ?_)
      clear hK K
      refine norm_ (a' := ?_) ?_ ?_
      rotate_left
      · show Act.put _ (some 8) _ = _
        simp only [Act.put, List.setIfInBounds_toArray, List.set_cons_zero, List.set_cons_succ, i64_w, i32_w]
        rfl
      refine one_ (i := 2) (N := some 18) #[true, true, true, false, true, false] rfl rfl (by kernel_rfl) (by decide) (fun K hK => ?_)
      refine goes_ Try.func15 (by kernel_rfl) rfl #[.int .i64 b] (by rfl) rfl rfl (by simp only [List.map_toArray, List.map_cons, List.map_nil]; rfl) ?_
      with_reducible refine (of_ b _ b0 b1).mono ?_
      rintro e U4_2_ ⟨v18_, rfl, R24_2_, BB4_2_⟩
      refine ⟨_, rfl, ?_⟩
      have PP4_2_ : Below V2.heap.size V2 U4_2_ := PP4_.trans (BB4_2_.mono PP4_.size)
      have N74_2_ := N74_.below BB4_2_
      have GA4_2_ := (BB4_2_.block _ (blk_lt GA4_)).trans GA4_
      refine hK.out _ _ ⟨(pw_cell_below PP4_2_ f70), (pw_cell_below PP4_2_ f71)⟩ (fun hHeld => ?_)
      clear hK K
      refine norm_ (a' := ?_) ?_ ?_
      rotate_left
      · show Act.put _ (some 18) _ = _
        simp only [Act.put, List.setIfInBounds_toArray, List.set_cons_zero, List.set_cons_succ, i64_w, i32_w]
        rfl
      refine one_ (i := 3) (N := some 19) #[true, true, true, true, true, false] rfl rfl (by kernel_rfl) (by decide) (fun K hK => ?_)
      refine goes_ Try.func16 (by kernel_rfl) rfl #[.agg #[.bool n7, .slice A7 d7.length c7], v18_] (by rfl) rfl rfl (by simp only [List.map_toArray, List.map_cons, List.map_nil]; rfl) ?_
      with_reducible refine (plus _ _ p b _ N74_2_ R24_2_ obq.out.1 obq.out.2 ob.out.1 ob.out.2).mono ?_
      rintro e U4_2_3_ ⟨v19_, rfl, R34_2_3_, BB4_2_3_⟩
      refine ⟨_, rfl, ?_⟩
      have PP4_2_3_ : Below V2.heap.size V2 U4_2_3_ := PP4_2_.trans (BB4_2_3_.mono PP4_2_.size)
      have N74_2_3_ := N74_2_.below BB4_2_3_
      have GA4_2_3_ := (BB4_2_3_.block _ (blk_lt GA4_2_)).trans GA4_2_
      have R24_2_3_ := R24_2_.below BB4_2_3_
      refine hK.out _ _ ⟨(pw_cell_below PP4_2_3_ f70), (pw_cell_below PP4_2_3_ f71)⟩ (fun hHeld => ?_)
      clear hK K
      refine norm_ (a' := ?_) ?_ ?_
      rotate_left
      · show Act.put _ (some 19) _ = _
        simp only [Act.put, List.setIfInBounds_toArray, List.set_cons_zero, List.set_cons_succ, i64_w, i32_w]
        rfl
      exact norm_ (by simp only [putAll, Act.put, List.setIfInBounds_toArray, List.set_cons_zero, List.set_cons_succ]) (hCont (v18_, v19_, V2.heap.size) _ ⟨ZZ4_, GA4_2_3_, R34_2_3_, PP4_2_3_⟩)
  rintro ⟨v18_, v19_, g8⟩ Yg8 ⟨zzg8, gag8, nng8, ppg8⟩
  have hHeld : Yg8.cell? ⟨g7, 0, none⟩ = some (.bool n7) ∧ Yg8.cell? ⟨g7, 1, none⟩ = some (.slice A7 d7.length c7) := ⟨pw_cell_below ppg8 f70, pw_cell_below ppg8 f71⟩
  dsimp only at gag8 nng8 zzg8
  refine norm_ (a' := ?_) ?_ ?_
  rotate_left
  · simp only [putAll, Act.put, List.setIfInBounds_toArray, List.set_cons_zero, List.set_cons_succ]
    rfl
  refine last_ (i := 5) (N := none) #[true, true, true, true, true, true] rfl rfl (by kernel_rfl) (by decide) (fun K hK => ?_)
  obtain ⟨ng8, Ag8, cg8, dg8, rfl, hrg8, lg8, mg8, hxg8⟩ := nng8
  have j0 : Yg8.cell? ⟨g8, 0, none⟩ = some (.bool false) := (blk_cell gag8 0).trans rfl
  have j1 : Yg8.cell? ⟨g8, 1, none⟩ = some (.slice none 0 0) := (blk_cell gag8 1).trans rfl
  have j2 := blk_frozen gag8
  have GAg8 := Lib.hid gag8
  clear gag8
  refine skip_ (w1 := ?_) (by rfl) rfl ?_ ?_
  rotate_left
  · go_simp
    rfl
  refine hK.out _ _ ?_
  clear hK K
  refine done_ (by kernel_rfl) ?_
  have Bg8n : NBox ((Yg8.setCell ⟨g8, 0, none⟩ (.bool ng8)).setCell ⟨g8, 1, none⟩ (.slice Ag8 dg8.length cg8)) g8 (p + b) := nbox_set GAg8.out hrg8 lg8 mg8 hxg8
  have B7n : NBox ((Yg8.setCell ⟨g8, 0, none⟩ (.bool ng8)).setCell ⟨g8, 1, none⟩ (.slice Ag8 dg8.length cg8)) g7 p := nbox_far ((box_mk H7.out N70).below ppg8) GAg8.out (by have := blk_lt H7.out; omega)
  have PBg8 : Below w.heap.size w ((Yg8.setCell ⟨g8, 0, none⟩ (.bool ng8)).setCell ⟨g8, 1, none⟩ (.slice Ag8 dg8.length cg8)) := ((PB.trans (ppg8.mono PB.size)).setCell (by have := PB.size; simp; omega) _).setCell (by have := PB.size; simp; omega) _
  clear j0 j1 j2 hHeld
  go_upto_region 3 with fail
  generalize (Yg8.setCell ⟨g8, 0, none⟩ (.bool ng8)).setCell ⟨g8, 1, none⟩ (.slice Ag8 dg8.length cg8) = V3 at *
  have PB := PBg8
  have B7 := B7n
  have B8 := Bg8n
  clear PBg8 B7n Bg8n ppg8 GAg8 hrg8 hxg8 H7 f70 f71 N70
  obtain ⟨n7, A7, c7, d7, E7, N70⟩ := box_open B7
  have f70 : V3.cell? ⟨g7, 0, none⟩ = some (.bool n7) := (blk_cell E7 0).trans rfl
  have f71 : V3.cell? ⟨g7, 1, none⟩ = some (.slice A7 d7.length c7) := (blk_cell E7 1).trans rfl
  have H7 := Lib.hid E7
  clear E7
  refine start_ (n := 7) (S := fun w' => w'.cell? ⟨g7, 0, none⟩ = some (.bool n7) ∧ w'.cell? ⟨g7, 1, none⟩ = some (.slice A7 d7.length c7)) (ds := [6]) #[false, false, false, false, false, false, false] (by kernel_rfl) rfl rfl ⟨f70, f71⟩ (fun hHeld => ?_)
  refine pure_ (i := 0) (N := some 20) (v := ?_) (a' := ?_) #[true, false, false, false, false, false, false] rfl rfl (by kernel_rfl) (fun _ _ _ h => h) (Or.inl ⟨by rfl, ?_⟩) ?_ ?_
  rotate_left
  · intro w'
    go_simp
    with_reducible rfl
  rotate_left
  · simp only [Act.put, List.setIfInBounds_toArray, List.set_cons_zero, List.set_cons_succ, i64_w, i32_w]
    rfl
  refine take_ (i := 2) (N := some 22) (v := ?_) (a' := ?_) #[true, false, true, false, false, false, false] rfl rfl (by kernel_rfl) (fun _ _ _ h => h) (Or.inl ⟨by rfl, ?_⟩) hHeld ?_ ?_
  rotate_left
  · rintro w' ⟨s0, s1⟩
    go_simp
    with_reducible rfl
  rotate_left
  · simp only [Act.put, List.setIfInBounds_toArray, List.set_cons_zero, List.set_cons_succ, i64_w, i32_w]
    rfl
  refine join_ (σ := Value × Value × Value × Nat) 1 #[true, true, true, true, true, true, false] (fun s => [(21, s.1), (23, s.2.1), (24, s.2.2.1), (9, .pointer (some ⟨s.2.2.2, 0, none⟩))]) (fun s w' => FK V3 w' s.2.2.2 s.2.2.1 (a + -p)) ?_ ?_
  rotate_left
  · intro hCont
    refine two_ (i := 1) (j := 5) (Ni := some 21) (Nj := some 9) #[true, true, true, false, false, false, false] #[true, false, true, false, false, true, false] rfl rfl rfl rfl (by kernel_rfl) (by decide) (by decide) (fun K hK => ?_) (fun K hK => ?_)
    · skip
      have PP : Below V3.heap.size V3 V3.drew := (Below.refl _ _).drew
      have N7 := N70.below PP
      refine goes_ Try.func15 (by kernel_rfl) rfl #[.int .i64 a] (by rfl) rfl rfl (by simp only [List.map_toArray, List.map_cons, List.map_nil]; rfl) ?_
      with_reducible refine (of_ a _ a0 a1).mono ?_
      rintro e U1_ ⟨v21_, rfl, R11_, BB1_⟩
      refine ⟨_, rfl, ?_⟩
      have PP1_ : Below V3.heap.size V3 U1_ := PP.trans (BB1_.mono PP.size)
      have N71_ := N7.below BB1_
      refine hK.out _ _ ⟨(pw_cell_below PP1_ f70), (pw_cell_below PP1_ f71)⟩ (fun hHeld => ?_)
      clear hK K
      refine norm_ (a' := ?_) ?_ ?_
      rotate_left
      · show Act.put _ (some 21) _ = _
        simp only [Act.put, List.setIfInBounds_toArray, List.set_cons_zero, List.set_cons_succ, i64_w, i32_w]
        rfl
      refine two_ (i := 3) (j := 5) (Ni := some 23) (Nj := some 9) #[true, true, true, true, false, false, false] #[true, true, true, false, false, true, false] rfl rfl rfl rfl (by kernel_rfl) (by decide) (by decide) (fun K hK => ?_) (fun K hK => ?_)
      · skip
        refine goes_ Try.func14 (by kernel_rfl) rfl #[.agg #[.bool n7, .slice A7 d7.length c7]] (by rfl) rfl rfl (by simp only [List.map_toArray, List.map_cons, List.map_nil]; rfl) ?_
        with_reducible refine (minus _ p _ N71_).mono ?_
        rintro e U1_3_ ⟨v23_, rfl, R31_3_, BB1_3_⟩
        refine ⟨_, rfl, ?_⟩
        have PP1_3_ : Below V3.heap.size V3 U1_3_ := PP1_.trans (BB1_3_.mono PP1_.size)
        have N71_3_ := N71_.below BB1_3_
        have R11_3_ := R11_.below BB1_3_
        refine hK.out _ _ ⟨(pw_cell_below PP1_3_ f70), (pw_cell_below PP1_3_ f71)⟩ (fun hHeld => ?_)
        clear hK K
        refine norm_ (a' := ?_) ?_ ?_
        rotate_left
        · show Act.put _ (some 23) _ = _
          simp only [Act.put, List.setIfInBounds_toArray, List.set_cons_zero, List.set_cons_succ, i64_w, i32_w]
          rfl
        refine two_ (i := 4) (j := 5) (Ni := some 24) (Nj := some 9) #[true, true, true, true, true, false, false] #[true, true, true, true, false, true, false] rfl rfl rfl rfl (by kernel_rfl) (by decide) (by decide) (fun K hK => ?_) (fun K hK => ?_)
        · skip
          refine goes_ Try.func16 (by kernel_rfl) rfl #[v21_, v23_] (by rfl) rfl rfl (by simp only [List.map_toArray, List.map_cons, List.map_nil]; rfl) ?_
          with_reducible refine (plus _ _ a (-p) _ R11_3_ R31_3_ oa.out.1 oa.out.2 ol.out.1 ol.out.2).mono ?_
          rintro e U1_3_4_ ⟨v24_, rfl, R41_3_4_, BB1_3_4_⟩
          refine ⟨_, rfl, ?_⟩
          have PP1_3_4_ : Below V3.heap.size V3 U1_3_4_ := PP1_3_.trans (BB1_3_4_.mono PP1_3_.size)
          have N71_3_4_ := N71_3_.below BB1_3_4_
          have R11_3_4_ := R11_3_.below BB1_3_4_
          have R31_3_4_ := R31_3_.below BB1_3_4_
          refine hK.out _ _ ⟨(pw_cell_below PP1_3_4_ f70), (pw_cell_below PP1_3_4_ f71)⟩ (fun hHeld => ?_)
          clear hK K
          refine norm_ (a' := ?_) ?_ ?_
          rotate_left
          · show Act.put _ (some 24) _ = _
            simp only [Act.put, List.setIfInBounds_toArray, List.set_cons_zero, List.set_cons_succ, i64_w, i32_w]
            rfl
          refine one_ (i := 5) (N := some 9) #[true, true, true, true, true, true, false] rfl rfl (by kernel_rfl) (by decide) (fun K hK => ?_)
          refine value_ (w1 := ?_) (v := ?_) (by rfl) rfl ?_ ?_
          rotate_left 2
          · go_simp
            constructor
            · rfl
            · rfl
          have BB1_3_4_5_ : Below U1_3_4_.heap.size U1_3_4_ (U1_3_4_.alloc (.cells #[.bool false, .slice none 0 0] 29)) := (Below.refl _ _).alloc (Nat.le_refl _) _
          have PP1_3_4_5_ : Below V3.heap.size V3 (U1_3_4_.alloc (.cells #[.bool false, .slice none 0 0] 29)) := PP1_3_4_.trans (BB1_3_4_5_.mono PP1_3_4_.size)
          have N71_3_4_5_ := N71_3_4_.below BB1_3_4_5_
          have R11_3_4_5_ := R11_3_4_.below BB1_3_4_5_
          have R31_3_4_5_ := R31_3_4_.below BB1_3_4_5_
          have R41_3_4_5_ := R41_3_4_.below BB1_3_4_5_
          have GA1_3_4_5_ : (U1_3_4_.alloc (.cells #[.bool false, .slice none 0 0] 29)).heap[U1_3_4_.heap.size]? = some (.cells #[.bool false, .slice none 0 0] 29 (0, 0)) := get_new _ _ _ rfl
          have ZZ1_3_4_5_ : V3.heap.size ≤ U1_3_4_.heap.size := PP1_3_4_.size
          refine hK.out _ _ ⟨(pw_cell_below PP1_3_4_5_ f70), (pw_cell_below PP1_3_4_5_ f71)⟩ (fun hHeld => ?_)
          clear hK K
          refine norm_ (a' := ?_) ?_ ?_
          rotate_left
          · show Act.put _ (some 9) _ = _
            simp only [Act.put, List.setIfInBounds_toArray, List.set_cons_zero, List.set_cons_succ, i64_w, i32_w]
            rfl
          exact norm_ (by simp only [putAll, Act.put, List.setIfInBounds_toArray, List.set_cons_zero, List.set_cons_succ]) (hCont (v21_, v23_, v24_, U1_3_4_.heap.size) _ ⟨ZZ1_3_4_5_, GA1_3_4_5_, R41_3_4_5_, PP1_3_4_5_⟩)
        · skip
          refine value_ (w1 := ?_) (v := ?_) (by rfl) rfl ?_ ?_
          rotate_left 2
          · go_simp
            constructor
            · rfl
            · rfl
          have BB1_3_5_ : Below U1_3_.heap.size U1_3_ (U1_3_.alloc (.cells #[.bool false, .slice none 0 0] 29)) := (Below.refl _ _).alloc (Nat.le_refl _) _
          have PP1_3_5_ : Below V3.heap.size V3 (U1_3_.alloc (.cells #[.bool false, .slice none 0 0] 29)) := PP1_3_.trans (BB1_3_5_.mono PP1_3_.size)
          have N71_3_5_ := N71_3_.below BB1_3_5_
          have R11_3_5_ := R11_3_.below BB1_3_5_
          have R31_3_5_ := R31_3_.below BB1_3_5_
          have GA1_3_5_ : (U1_3_.alloc (.cells #[.bool false, .slice none 0 0] 29)).heap[U1_3_.heap.size]? = some (.cells #[.bool false, .slice none 0 0] 29 (0, 0)) := get_new _ _ _ rfl
          have ZZ1_3_5_ : V3.heap.size ≤ U1_3_.heap.size := PP1_3_.size
          refine hK.out _ _ ⟨(pw_cell_below PP1_3_5_ f70), (pw_cell_below PP1_3_5_ f71)⟩ (fun hHeld => ?_)
          clear hK K
          refine norm_ (a' := ?_) ?_ ?_
          rotate_left
          · show Act.put _ (some 9) _ = _
            simp only [Act.put, List.setIfInBounds_toArray, List.set_cons_zero, List.set_cons_succ, i64_w, i32_w]
            rfl
          refine one_ (i := 4) (N := some 24) #[true, true, true, true, true, true, false] rfl rfl (by kernel_rfl) (by decide) (fun K hK => ?_)
          refine goes_ Try.func16 (by kernel_rfl) rfl #[v21_, v23_] (by rfl) rfl rfl (by simp only [List.map_toArray, List.map_cons, List.map_nil]; rfl) ?_
          with_reducible refine (plus _ _ a (-p) _ R11_3_5_ R31_3_5_ oa.out.1 oa.out.2 ol.out.1 ol.out.2).mono ?_
          rintro e U1_3_5_4_ ⟨v24_, rfl, R41_3_5_4_, BB1_3_5_4_⟩
          refine ⟨_, rfl, ?_⟩
          have PP1_3_5_4_ : Below V3.heap.size V3 U1_3_5_4_ := PP1_3_5_.trans (BB1_3_5_4_.mono PP1_3_5_.size)
          have N71_3_5_4_ := N71_3_5_.below BB1_3_5_4_
          have R11_3_5_4_ := R11_3_5_.below BB1_3_5_4_
          have R31_3_5_4_ := R31_3_5_.below BB1_3_5_4_
          have GA1_3_5_4_ := (BB1_3_5_4_.block _ (blk_lt GA1_3_5_)).trans GA1_3_5_
          refine hK.out _ _ ⟨(pw_cell_below PP1_3_5_4_ f70), (pw_cell_below PP1_3_5_4_ f71)⟩ (fun hHeld => ?_)
          clear hK K
          refine norm_ (a' := ?_) ?_ ?_
          rotate_left
          · show Act.put _ (some 24) _ = _
            simp only [Act.put, List.setIfInBounds_toArray, List.set_cons_zero, List.set_cons_succ, i64_w, i32_w]
            rfl
          exact norm_ (by simp only [putAll, Act.put, List.setIfInBounds_toArray, List.set_cons_zero, List.set_cons_succ]) (hCont (v21_, v23_, v24_, U1_3_.heap.size) _ ⟨ZZ1_3_5_, GA1_3_5_4_, R41_3_5_4_, PP1_3_5_4_⟩)
      · skip
        refine value_ (w1 := ?_) (v := ?_) (by rfl) rfl ?_ ?_
        rotate_left 2
        · go_simp
          constructor
          · rfl
          · rfl
        have BB1_5_ : Below U1_.heap.size U1_ (U1_.alloc (.cells #[.bool false, .slice none 0 0] 29)) := (Below.refl _ _).alloc (Nat.le_refl _) _
        have PP1_5_ : Below V3.heap.size V3 (U1_.alloc (.cells #[.bool false, .slice none 0 0] 29)) := PP1_.trans (BB1_5_.mono PP1_.size)
        have N71_5_ := N71_.below BB1_5_
        have R11_5_ := R11_.below BB1_5_
        have GA1_5_ : (U1_.alloc (.cells #[.bool false, .slice none 0 0] 29)).heap[U1_.heap.size]? = some (.cells #[.bool false, .slice none 0 0] 29 (0, 0)) := get_new _ _ _ rfl
        have ZZ1_5_ : V3.heap.size ≤ U1_.heap.size := PP1_.size
        refine hK.out _ _ ⟨(pw_cell_below PP1_5_ f70), (pw_cell_below PP1_5_ f71)⟩ (fun hHeld => ?_)
        clear hK K
        refine norm_ (a' := ?_) ?_ ?_
        rotate_left
        · show Act.put _ (some 9) _ = _
          simp only [Act.put, List.setIfInBounds_toArray, List.set_cons_zero, List.set_cons_succ, i64_w, i32_w]
          rfl
        refine one_ (i := 3) (N := some 23) #[true, true, true, true, false, true, false] rfl rfl (by kernel_rfl) (by decide) (fun K hK => ?_)
        refine goes_ Try.func14 (by kernel_rfl) rfl #[.agg #[.bool n7, .slice A7 d7.length c7]] (by rfl) rfl rfl (by simp only [List.map_toArray, List.map_cons, List.map_nil]; rfl) ?_
        with_reducible refine (minus _ p _ N71_5_).mono ?_
        rintro e U1_5_3_ ⟨v23_, rfl, R31_5_3_, BB1_5_3_⟩
        refine ⟨_, rfl, ?_⟩
        have PP1_5_3_ : Below V3.heap.size V3 U1_5_3_ := PP1_5_.trans (BB1_5_3_.mono PP1_5_.size)
        have N71_5_3_ := N71_5_.below BB1_5_3_
        have R11_5_3_ := R11_5_.below BB1_5_3_
        have GA1_5_3_ := (BB1_5_3_.block _ (blk_lt GA1_5_)).trans GA1_5_
        refine hK.out _ _ ⟨(pw_cell_below PP1_5_3_ f70), (pw_cell_below PP1_5_3_ f71)⟩ (fun hHeld => ?_)
        clear hK K
        refine norm_ (a' := ?_) ?_ ?_
        rotate_left
        · show Act.put _ (some 23) _ = _
          simp only [Act.put, List.setIfInBounds_toArray, List.set_cons_zero, List.set_cons_succ, i64_w, i32_w]
          rfl
        refine one_ (i := 4) (N := some 24) #[true, true, true, true, true, true, false] rfl rfl (by kernel_rfl) (by decide) (fun K hK => ?_)
        refine goes_ Try.func16 (by kernel_rfl) rfl #[v21_, v23_] (by rfl) rfl rfl (by simp only [List.map_toArray, List.map_cons, List.map_nil]; rfl) ?_
        with_reducible refine (plus _ _ a (-p) _ R11_5_3_ R31_5_3_ oa.out.1 oa.out.2 ol.out.1 ol.out.2).mono ?_
        rintro e U1_5_3_4_ ⟨v24_, rfl, R41_5_3_4_, BB1_5_3_4_⟩
        refine ⟨_, rfl, ?_⟩
        have PP1_5_3_4_ : Below V3.heap.size V3 U1_5_3_4_ := PP1_5_3_.trans (BB1_5_3_4_.mono PP1_5_3_.size)
        have N71_5_3_4_ := N71_5_3_.below BB1_5_3_4_
        have R11_5_3_4_ := R11_5_3_.below BB1_5_3_4_
        have GA1_5_3_4_ := (BB1_5_3_4_.block _ (blk_lt GA1_5_3_)).trans GA1_5_3_
        have R31_5_3_4_ := R31_5_3_.below BB1_5_3_4_
        refine hK.out _ _ ⟨(pw_cell_below PP1_5_3_4_ f70), (pw_cell_below PP1_5_3_4_ f71)⟩ (fun hHeld => ?_)
        clear hK K
        refine norm_ (a' := ?_) ?_ ?_
        rotate_left
        · show Act.put _ (some 24) _ = _
          simp only [Act.put, List.setIfInBounds_toArray, List.set_cons_zero, List.set_cons_succ, i64_w, i32_w]
          rfl
        exact norm_ (by simp only [putAll, Act.put, List.setIfInBounds_toArray, List.set_cons_zero, List.set_cons_succ]) (hCont (v21_, v23_, v24_, U1_.heap.size) _ ⟨ZZ1_5_, GA1_5_3_4_, R41_5_3_4_, PP1_5_3_4_⟩)
    · skip
      have PP : Below V3.heap.size V3 V3.drew := (Below.refl _ _).drew
      have N7 := N70.below PP
      refine value_ (w1 := ?_) (v := ?_) (by rfl) rfl ?_ ?_
      rotate_left 2
      · go_simp
        constructor
        · rfl
        · rfl
      have BB5_ : Below V3.drew.heap.size V3.drew (V3.drew.alloc (.cells #[.bool false, .slice none 0 0] 29)) := (Below.refl _ _).alloc (Nat.le_refl _) _
      have PP5_ : Below V3.heap.size V3 (V3.drew.alloc (.cells #[.bool false, .slice none 0 0] 29)) := PP.trans (BB5_.mono PP.size)
      have N75_ := N7.below BB5_
      have GA5_ : (V3.drew.alloc (.cells #[.bool false, .slice none 0 0] 29)).heap[V3.drew.heap.size]? = some (.cells #[.bool false, .slice none 0 0] 29 (0, 0)) := get_new _ _ _ rfl
      have ZZ5_ : V3.heap.size ≤ V3.drew.heap.size := PP.size
      refine hK.out _ _ ⟨(pw_cell_below PP5_ f70), (pw_cell_below PP5_ f71)⟩ (fun hHeld => ?_)
      clear hK K
      refine norm_ (a' := ?_) ?_ ?_
      rotate_left
      · show Act.put _ (some 9) _ = _
        simp only [Act.put, List.setIfInBounds_toArray, List.set_cons_zero, List.set_cons_succ, i64_w, i32_w]
        rfl
      refine one_ (i := 1) (N := some 21) #[true, true, true, false, false, true, false] rfl rfl (by kernel_rfl) (by decide) (fun K hK => ?_)
      refine goes_ Try.func15 (by kernel_rfl) rfl #[.int .i64 a] (by rfl) rfl rfl (by simp only [List.map_toArray, List.map_cons, List.map_nil]; rfl) ?_
      with_reducible refine (of_ a _ a0 a1).mono ?_
      rintro e U5_1_ ⟨v21_, rfl, R15_1_, BB5_1_⟩
      refine ⟨_, rfl, ?_⟩
      have PP5_1_ : Below V3.heap.size V3 U5_1_ := PP5_.trans (BB5_1_.mono PP5_.size)
      have N75_1_ := N75_.below BB5_1_
      have GA5_1_ := (BB5_1_.block _ (blk_lt GA5_)).trans GA5_
      refine hK.out _ _ ⟨(pw_cell_below PP5_1_ f70), (pw_cell_below PP5_1_ f71)⟩ (fun hHeld => ?_)
      clear hK K
      refine norm_ (a' := ?_) ?_ ?_
      rotate_left
      · show Act.put _ (some 21) _ = _
        simp only [Act.put, List.setIfInBounds_toArray, List.set_cons_zero, List.set_cons_succ, i64_w, i32_w]
        rfl
      refine one_ (i := 3) (N := some 23) #[true, true, true, true, false, true, false] rfl rfl (by kernel_rfl) (by decide) (fun K hK => ?_)
      refine goes_ Try.func14 (by kernel_rfl) rfl #[.agg #[.bool n7, .slice A7 d7.length c7]] (by rfl) rfl rfl (by simp only [List.map_toArray, List.map_cons, List.map_nil]; rfl) ?_
      with_reducible refine (minus _ p _ N75_1_).mono ?_
      rintro e U5_1_3_ ⟨v23_, rfl, R35_1_3_, BB5_1_3_⟩
      refine ⟨_, rfl, ?_⟩
      have PP5_1_3_ : Below V3.heap.size V3 U5_1_3_ := PP5_1_.trans (BB5_1_3_.mono PP5_1_.size)
      have N75_1_3_ := N75_1_.below BB5_1_3_
      have GA5_1_3_ := (BB5_1_3_.block _ (blk_lt GA5_1_)).trans GA5_1_
      have R15_1_3_ := R15_1_.below BB5_1_3_
      refine hK.out _ _ ⟨(pw_cell_below PP5_1_3_ f70), (pw_cell_below PP5_1_3_ f71)⟩ (fun hHeld => ?_)
      clear hK K
      refine norm_ (a' := ?_) ?_ ?_
      rotate_left
      · show Act.put _ (some 23) _ = _
        simp only [Act.put, List.setIfInBounds_toArray, List.set_cons_zero, List.set_cons_succ, i64_w, i32_w]
        rfl
      refine one_ (i := 4) (N := some 24) #[true, true, true, true, true, true, false] rfl rfl (by kernel_rfl) (by decide) (fun K hK => ?_)
      refine goes_ Try.func16 (by kernel_rfl) rfl #[v21_, v23_] (by rfl) rfl rfl (by simp only [List.map_toArray, List.map_cons, List.map_nil]; rfl) ?_
      with_reducible refine (plus _ _ a (-p) _ R15_1_3_ R35_1_3_ oa.out.1 oa.out.2 ol.out.1 ol.out.2).mono ?_
      rintro e U5_1_3_4_ ⟨v24_, rfl, R45_1_3_4_, BB5_1_3_4_⟩
      refine ⟨_, rfl, ?_⟩
      have PP5_1_3_4_ : Below V3.heap.size V3 U5_1_3_4_ := PP5_1_3_.trans (BB5_1_3_4_.mono PP5_1_3_.size)
      have N75_1_3_4_ := N75_1_3_.below BB5_1_3_4_
      have GA5_1_3_4_ := (BB5_1_3_4_.block _ (blk_lt GA5_1_3_)).trans GA5_1_3_
      have R15_1_3_4_ := R15_1_3_.below BB5_1_3_4_
      have R35_1_3_4_ := R35_1_3_.below BB5_1_3_4_
      refine hK.out _ _ ⟨(pw_cell_below PP5_1_3_4_ f70), (pw_cell_below PP5_1_3_4_ f71)⟩ (fun hHeld => ?_)
      clear hK K
      refine norm_ (a' := ?_) ?_ ?_
      rotate_left
      · show Act.put _ (some 24) _ = _
        simp only [Act.put, List.setIfInBounds_toArray, List.set_cons_zero, List.set_cons_succ, i64_w, i32_w]
        rfl
      exact norm_ (by simp only [putAll, Act.put, List.setIfInBounds_toArray, List.set_cons_zero, List.set_cons_succ]) (hCont (v21_, v23_, v24_, V3.heap.size) _ ⟨ZZ5_, GA5_1_3_4_, R45_1_3_4_, PP5_1_3_4_⟩)
  rintro ⟨v21_, v23_, v24_, g9⟩ Yg9 ⟨zzg9, gag9, nng9, ppg9⟩
  have hHeld : Yg9.cell? ⟨g7, 0, none⟩ = some (.bool n7) ∧ Yg9.cell? ⟨g7, 1, none⟩ = some (.slice A7 d7.length c7) := ⟨pw_cell_below ppg9 f70, pw_cell_below ppg9 f71⟩
  dsimp only at gag9 nng9 zzg9
  refine norm_ (a' := ?_) ?_ ?_
  rotate_left
  · simp only [putAll, Act.put, List.setIfInBounds_toArray, List.set_cons_zero, List.set_cons_succ]
    rfl
  refine last_ (i := 6) (N := none) #[true, true, true, true, true, true, true] rfl rfl (by kernel_rfl) (by decide) (fun K hK => ?_)
  obtain ⟨ng9, Ag9, cg9, dg9, rfl, hrg9, lg9, mg9, hxg9⟩ := nng9
  have j0 : Yg9.cell? ⟨g9, 0, none⟩ = some (.bool false) := (blk_cell gag9 0).trans rfl
  have j1 : Yg9.cell? ⟨g9, 1, none⟩ = some (.slice none 0 0) := (blk_cell gag9 1).trans rfl
  have j2 := blk_frozen gag9
  have GAg9 := Lib.hid gag9
  clear gag9
  refine skip_ (w1 := ?_) (by rfl) rfl ?_ ?_
  rotate_left
  · go_simp
    rfl
  refine hK.out _ _ ?_
  clear hK K
  refine done_ (by kernel_rfl) ?_
  obtain ⟨n8, A8, c8, d8, E8, N80⟩ := box_open B8
  have H8 := Lib.hid E8
  clear E8
  have zg9w : w.heap.size ≤ g9 := by have := PB.size; omega
  have Bg9n : NBox ((Yg9.setCell ⟨g9, 0, none⟩ (.bool ng9)).setCell ⟨g9, 1, none⟩ (.slice Ag9 dg9.length cg9)) g9 (a + -p) := nbox_set GAg9.out hrg9 lg9 mg9 hxg9
  have B8n : NBox ((Yg9.setCell ⟨g9, 0, none⟩ (.bool ng9)).setCell ⟨g9, 1, none⟩ (.slice Ag9 dg9.length cg9)) g8 (p + b) := nbox_far ((box_mk H8.out N80).below ppg9) GAg9.out (by have := blk_lt H8.out; omega)
  have PBg9 : Below w.heap.size w ((Yg9.setCell ⟨g9, 0, none⟩ (.bool ng9)).setCell ⟨g9, 1, none⟩ (.slice Ag9 dg9.length cg9)) := ((PB.trans (ppg9.mono PB.size)).setCell (by have := PB.size; simp; omega) _).setCell (by have := PB.size; simp; omega) _
  clear j0 j1 j2 hHeld
  go_upto_region 4 with fail
  generalize (Yg9.setCell ⟨g9, 0, none⟩ (.bool ng9)).setCell ⟨g9, 1, none⟩ (.slice Ag9 dg9.length cg9) = V4 at *
  have PB := PBg9
  have B8 := B8n
  have B9 := Bg9n
  clear PBg9 B8n Bg9n ppg9 GAg9 hrg9 hxg9 H8 N80 H7 f70 f71 N70
  obtain ⟨n8, A8, c8, d8, E8, N80⟩ := box_open B8
  have f80 : V4.cell? ⟨g8, 0, none⟩ = some (.bool n8) := (blk_cell E8 0).trans rfl
  have f81 : V4.cell? ⟨g8, 1, none⟩ = some (.slice A8 d8.length c8) := (blk_cell E8 1).trans rfl
  have H8 := Lib.hid E8
  clear E8
  refine start_ (n := 7) (S := fun w' => w'.cell? ⟨g8, 0, none⟩ = some (.bool n8) ∧ w'.cell? ⟨g8, 1, none⟩ = some (.slice A8 d8.length c8)) (ds := [6]) #[false, false, false, false, false, false, false] (by kernel_rfl) rfl rfl ⟨f80, f81⟩ (fun hHeld => ?_)
  refine pure_ (i := 1) (N := some 26) (v := ?_) (a' := ?_) #[false, true, false, false, false, false, false] rfl rfl (by kernel_rfl) (fun _ _ _ h => h) (Or.inl ⟨by rfl, ?_⟩) ?_ ?_
  rotate_left
  · intro w'
    go_simp
    with_reducible rfl
  rotate_left
  · simp only [Act.put, List.setIfInBounds_toArray, List.set_cons_zero, List.set_cons_succ, i64_w, i32_w]
    rfl
  refine take_ (i := 0) (N := some 25) (v := ?_) (a' := ?_) #[true, true, false, false, false, false, false] rfl rfl (by kernel_rfl) (fun _ _ _ h => h) (Or.inl ⟨by rfl, ?_⟩) hHeld ?_ ?_
  rotate_left
  · rintro w' ⟨s0, s1⟩
    go_simp
    with_reducible rfl
  rotate_left
  · simp only [Act.put, List.setIfInBounds_toArray, List.set_cons_zero, List.set_cons_succ, i64_w, i32_w]
    rfl
  refine join_ (σ := Value × Value × Value × Nat) 1 #[true, true, true, true, true, true, false] (fun s => [(27, s.1), (28, s.2.1), (29, s.2.2.1), (10, .pointer (some ⟨s.2.2.2, 0, none⟩))]) (fun s w' => FK V4 w' s.2.2.2 s.2.2.1 (p + b + -a)) ?_ ?_
  rotate_left
  · intro hCont
    refine two_ (i := 2) (j := 5) (Ni := some 27) (Nj := some 10) #[true, true, true, false, false, false, false] #[true, true, false, false, false, true, false] rfl rfl rfl rfl (by kernel_rfl) (by decide) (by decide) (fun K hK => ?_) (fun K hK => ?_)
    · skip
      have PP : Below V4.heap.size V4 V4.drew := (Below.refl _ _).drew
      have N8 := N80.below PP
      refine goes_ Try.func15 (by kernel_rfl) rfl #[.int .i64 a] (by rfl) rfl rfl (by simp only [List.map_toArray, List.map_cons, List.map_nil]; rfl) ?_
      with_reducible refine (of_ a _ a0 a1).mono ?_
      rintro e U2_ ⟨v27_, rfl, R22_, BB2_⟩
      refine ⟨_, rfl, ?_⟩
      have PP2_ : Below V4.heap.size V4 U2_ := PP.trans (BB2_.mono PP.size)
      have N82_ := N8.below BB2_
      refine hK.out _ _ ⟨(pw_cell_below PP2_ f80), (pw_cell_below PP2_ f81)⟩ (fun hHeld => ?_)
      clear hK K
      refine norm_ (a' := ?_) ?_ ?_
      rotate_left
      · show Act.put _ (some 27) _ = _
        simp only [Act.put, List.setIfInBounds_toArray, List.set_cons_zero, List.set_cons_succ, i64_w, i32_w]
        rfl
      refine two_ (i := 3) (j := 5) (Ni := some 28) (Nj := some 10) #[true, true, true, true, false, false, false] #[true, true, true, false, false, true, false] rfl rfl rfl rfl (by kernel_rfl) (by decide) (by decide) (fun K hK => ?_) (fun K hK => ?_)
      · skip
        refine goes_ Try.func14 (by kernel_rfl) rfl #[v27_] (by rfl) rfl rfl (by simp only [List.map_toArray, List.map_cons, List.map_nil]; rfl) ?_
        with_reducible refine (minus _ a _ R22_).mono ?_
        rintro e U2_3_ ⟨v28_, rfl, R32_3_, BB2_3_⟩
        refine ⟨_, rfl, ?_⟩
        have PP2_3_ : Below V4.heap.size V4 U2_3_ := PP2_.trans (BB2_3_.mono PP2_.size)
        have N82_3_ := N82_.below BB2_3_
        have R22_3_ := R22_.below BB2_3_
        refine hK.out _ _ ⟨(pw_cell_below PP2_3_ f80), (pw_cell_below PP2_3_ f81)⟩ (fun hHeld => ?_)
        clear hK K
        refine norm_ (a' := ?_) ?_ ?_
        rotate_left
        · show Act.put _ (some 28) _ = _
          simp only [Act.put, List.setIfInBounds_toArray, List.set_cons_zero, List.set_cons_succ, i64_w, i32_w]
          rfl
        refine two_ (i := 4) (j := 5) (Ni := some 29) (Nj := some 10) #[true, true, true, true, true, false, false] #[true, true, true, true, false, true, false] rfl rfl rfl rfl (by kernel_rfl) (by decide) (by decide) (fun K hK => ?_) (fun K hK => ?_)
        · skip
          refine goes_ Try.func16 (by kernel_rfl) rfl #[.agg #[.bool n8, .slice A8 d8.length c8], v28_] (by rfl) rfl rfl (by simp only [List.map_toArray, List.map_cons, List.map_nil]; rfl) ?_
          with_reducible refine (plus _ _ (p + b) (-a) _ N82_3_ R32_3_ oh.out.1 oh.out.2 oma.out.1 oma.out.2).mono ?_
          rintro e U2_3_4_ ⟨v29_, rfl, R42_3_4_, BB2_3_4_⟩
          refine ⟨_, rfl, ?_⟩
          have PP2_3_4_ : Below V4.heap.size V4 U2_3_4_ := PP2_3_.trans (BB2_3_4_.mono PP2_3_.size)
          have N82_3_4_ := N82_3_.below BB2_3_4_
          have R22_3_4_ := R22_3_.below BB2_3_4_
          have R32_3_4_ := R32_3_.below BB2_3_4_
          refine hK.out _ _ ⟨(pw_cell_below PP2_3_4_ f80), (pw_cell_below PP2_3_4_ f81)⟩ (fun hHeld => ?_)
          clear hK K
          refine norm_ (a' := ?_) ?_ ?_
          rotate_left
          · show Act.put _ (some 29) _ = _
            simp only [Act.put, List.setIfInBounds_toArray, List.set_cons_zero, List.set_cons_succ, i64_w, i32_w]
            rfl
          refine one_ (i := 5) (N := some 10) #[true, true, true, true, true, true, false] rfl rfl (by kernel_rfl) (by decide) (fun K hK => ?_)
          refine value_ (w1 := ?_) (v := ?_) (by rfl) rfl ?_ ?_
          rotate_left 2
          · go_simp
            constructor
            · rfl
            · rfl
          have BB2_3_4_5_ : Below U2_3_4_.heap.size U2_3_4_ (U2_3_4_.alloc (.cells #[.bool false, .slice none 0 0] 29)) := (Below.refl _ _).alloc (Nat.le_refl _) _
          have PP2_3_4_5_ : Below V4.heap.size V4 (U2_3_4_.alloc (.cells #[.bool false, .slice none 0 0] 29)) := PP2_3_4_.trans (BB2_3_4_5_.mono PP2_3_4_.size)
          have N82_3_4_5_ := N82_3_4_.below BB2_3_4_5_
          have R22_3_4_5_ := R22_3_4_.below BB2_3_4_5_
          have R32_3_4_5_ := R32_3_4_.below BB2_3_4_5_
          have R42_3_4_5_ := R42_3_4_.below BB2_3_4_5_
          have GA2_3_4_5_ : (U2_3_4_.alloc (.cells #[.bool false, .slice none 0 0] 29)).heap[U2_3_4_.heap.size]? = some (.cells #[.bool false, .slice none 0 0] 29 (0, 0)) := get_new _ _ _ rfl
          have ZZ2_3_4_5_ : V4.heap.size ≤ U2_3_4_.heap.size := PP2_3_4_.size
          refine hK.out _ _ ⟨(pw_cell_below PP2_3_4_5_ f80), (pw_cell_below PP2_3_4_5_ f81)⟩ (fun hHeld => ?_)
          clear hK K
          refine norm_ (a' := ?_) ?_ ?_
          rotate_left
          · show Act.put _ (some 10) _ = _
            simp only [Act.put, List.setIfInBounds_toArray, List.set_cons_zero, List.set_cons_succ, i64_w, i32_w]
            rfl
          exact norm_ (by simp only [putAll, Act.put, List.setIfInBounds_toArray, List.set_cons_zero, List.set_cons_succ]) (hCont (v27_, v28_, v29_, U2_3_4_.heap.size) _ ⟨ZZ2_3_4_5_, GA2_3_4_5_, R42_3_4_5_, PP2_3_4_5_⟩)
        · skip
          refine value_ (w1 := ?_) (v := ?_) (by rfl) rfl ?_ ?_
          rotate_left 2
          · go_simp
            constructor
            · rfl
            · rfl
          have BB2_3_5_ : Below U2_3_.heap.size U2_3_ (U2_3_.alloc (.cells #[.bool false, .slice none 0 0] 29)) := (Below.refl _ _).alloc (Nat.le_refl _) _
          have PP2_3_5_ : Below V4.heap.size V4 (U2_3_.alloc (.cells #[.bool false, .slice none 0 0] 29)) := PP2_3_.trans (BB2_3_5_.mono PP2_3_.size)
          have N82_3_5_ := N82_3_.below BB2_3_5_
          have R22_3_5_ := R22_3_.below BB2_3_5_
          have R32_3_5_ := R32_3_.below BB2_3_5_
          have GA2_3_5_ : (U2_3_.alloc (.cells #[.bool false, .slice none 0 0] 29)).heap[U2_3_.heap.size]? = some (.cells #[.bool false, .slice none 0 0] 29 (0, 0)) := get_new _ _ _ rfl
          have ZZ2_3_5_ : V4.heap.size ≤ U2_3_.heap.size := PP2_3_.size
          refine hK.out _ _ ⟨(pw_cell_below PP2_3_5_ f80), (pw_cell_below PP2_3_5_ f81)⟩ (fun hHeld => ?_)
          clear hK K
          refine norm_ (a' := ?_) ?_ ?_
          rotate_left
          · show Act.put _ (some 10) _ = _
            simp only [Act.put, List.setIfInBounds_toArray, List.set_cons_zero, List.set_cons_succ, i64_w, i32_w]
            rfl
          refine one_ (i := 4) (N := some 29) #[true, true, true, true, true, true, false] rfl rfl (by kernel_rfl) (by decide) (fun K hK => ?_)
          refine goes_ Try.func16 (by kernel_rfl) rfl #[.agg #[.bool n8, .slice A8 d8.length c8], v28_] (by rfl) rfl rfl (by simp only [List.map_toArray, List.map_cons, List.map_nil]; rfl) ?_
          with_reducible refine (plus _ _ (p + b) (-a) _ N82_3_5_ R32_3_5_ oh.out.1 oh.out.2 oma.out.1 oma.out.2).mono ?_
          rintro e U2_3_5_4_ ⟨v29_, rfl, R42_3_5_4_, BB2_3_5_4_⟩
          refine ⟨_, rfl, ?_⟩
          have PP2_3_5_4_ : Below V4.heap.size V4 U2_3_5_4_ := PP2_3_5_.trans (BB2_3_5_4_.mono PP2_3_5_.size)
          have N82_3_5_4_ := N82_3_5_.below BB2_3_5_4_
          have R22_3_5_4_ := R22_3_5_.below BB2_3_5_4_
          have R32_3_5_4_ := R32_3_5_.below BB2_3_5_4_
          have GA2_3_5_4_ := (BB2_3_5_4_.block _ (blk_lt GA2_3_5_)).trans GA2_3_5_
          refine hK.out _ _ ⟨(pw_cell_below PP2_3_5_4_ f80), (pw_cell_below PP2_3_5_4_ f81)⟩ (fun hHeld => ?_)
          clear hK K
          refine norm_ (a' := ?_) ?_ ?_
          rotate_left
          · show Act.put _ (some 29) _ = _
            simp only [Act.put, List.setIfInBounds_toArray, List.set_cons_zero, List.set_cons_succ, i64_w, i32_w]
            rfl
          exact norm_ (by simp only [putAll, Act.put, List.setIfInBounds_toArray, List.set_cons_zero, List.set_cons_succ]) (hCont (v27_, v28_, v29_, U2_3_.heap.size) _ ⟨ZZ2_3_5_, GA2_3_5_4_, R42_3_5_4_, PP2_3_5_4_⟩)
      · skip
        refine value_ (w1 := ?_) (v := ?_) (by rfl) rfl ?_ ?_
        rotate_left 2
        · go_simp
          constructor
          · rfl
          · rfl
        have BB2_5_ : Below U2_.heap.size U2_ (U2_.alloc (.cells #[.bool false, .slice none 0 0] 29)) := (Below.refl _ _).alloc (Nat.le_refl _) _
        have PP2_5_ : Below V4.heap.size V4 (U2_.alloc (.cells #[.bool false, .slice none 0 0] 29)) := PP2_.trans (BB2_5_.mono PP2_.size)
        have N82_5_ := N82_.below BB2_5_
        have R22_5_ := R22_.below BB2_5_
        have GA2_5_ : (U2_.alloc (.cells #[.bool false, .slice none 0 0] 29)).heap[U2_.heap.size]? = some (.cells #[.bool false, .slice none 0 0] 29 (0, 0)) := get_new _ _ _ rfl
        have ZZ2_5_ : V4.heap.size ≤ U2_.heap.size := PP2_.size
        refine hK.out _ _ ⟨(pw_cell_below PP2_5_ f80), (pw_cell_below PP2_5_ f81)⟩ (fun hHeld => ?_)
        clear hK K
        refine norm_ (a' := ?_) ?_ ?_
        rotate_left
        · show Act.put _ (some 10) _ = _
          simp only [Act.put, List.setIfInBounds_toArray, List.set_cons_zero, List.set_cons_succ, i64_w, i32_w]
          rfl
        refine one_ (i := 3) (N := some 28) #[true, true, true, true, false, true, false] rfl rfl (by kernel_rfl) (by decide) (fun K hK => ?_)
        refine goes_ Try.func14 (by kernel_rfl) rfl #[v27_] (by rfl) rfl rfl (by simp only [List.map_toArray, List.map_cons, List.map_nil]; rfl) ?_
        with_reducible refine (minus _ a _ R22_5_).mono ?_
        rintro e U2_5_3_ ⟨v28_, rfl, R32_5_3_, BB2_5_3_⟩
        refine ⟨_, rfl, ?_⟩
        have PP2_5_3_ : Below V4.heap.size V4 U2_5_3_ := PP2_5_.trans (BB2_5_3_.mono PP2_5_.size)
        have N82_5_3_ := N82_5_.below BB2_5_3_
        have R22_5_3_ := R22_5_.below BB2_5_3_
        have GA2_5_3_ := (BB2_5_3_.block _ (blk_lt GA2_5_)).trans GA2_5_
        refine hK.out _ _ ⟨(pw_cell_below PP2_5_3_ f80), (pw_cell_below PP2_5_3_ f81)⟩ (fun hHeld => ?_)
        clear hK K
        refine norm_ (a' := ?_) ?_ ?_
        rotate_left
        · show Act.put _ (some 28) _ = _
          simp only [Act.put, List.setIfInBounds_toArray, List.set_cons_zero, List.set_cons_succ, i64_w, i32_w]
          rfl
        refine one_ (i := 4) (N := some 29) #[true, true, true, true, true, true, false] rfl rfl (by kernel_rfl) (by decide) (fun K hK => ?_)
        refine goes_ Try.func16 (by kernel_rfl) rfl #[.agg #[.bool n8, .slice A8 d8.length c8], v28_] (by rfl) rfl rfl (by simp only [List.map_toArray, List.map_cons, List.map_nil]; rfl) ?_
        with_reducible refine (plus _ _ (p + b) (-a) _ N82_5_3_ R32_5_3_ oh.out.1 oh.out.2 oma.out.1 oma.out.2).mono ?_
        rintro e U2_5_3_4_ ⟨v29_, rfl, R42_5_3_4_, BB2_5_3_4_⟩
        refine ⟨_, rfl, ?_⟩
        have PP2_5_3_4_ : Below V4.heap.size V4 U2_5_3_4_ := PP2_5_3_.trans (BB2_5_3_4_.mono PP2_5_3_.size)
        have N82_5_3_4_ := N82_5_3_.below BB2_5_3_4_
        have R22_5_3_4_ := R22_5_3_.below BB2_5_3_4_
        have GA2_5_3_4_ := (BB2_5_3_4_.block _ (blk_lt GA2_5_3_)).trans GA2_5_3_
        have R32_5_3_4_ := R32_5_3_.below BB2_5_3_4_
        refine hK.out _ _ ⟨(pw_cell_below PP2_5_3_4_ f80), (pw_cell_below PP2_5_3_4_ f81)⟩ (fun hHeld => ?_)
        clear hK K
        refine norm_ (a' := ?_) ?_ ?_
        rotate_left
        · show Act.put _ (some 29) _ = _
          simp only [Act.put, List.setIfInBounds_toArray, List.set_cons_zero, List.set_cons_succ, i64_w, i32_w]
          rfl
        exact norm_ (by simp only [putAll, Act.put, List.setIfInBounds_toArray, List.set_cons_zero, List.set_cons_succ]) (hCont (v27_, v28_, v29_, U2_.heap.size) _ ⟨ZZ2_5_, GA2_5_3_4_, R42_5_3_4_, PP2_5_3_4_⟩)
    · skip
      have PP : Below V4.heap.size V4 V4.drew := (Below.refl _ _).drew
      have N8 := N80.below PP
      refine value_ (w1 := ?_) (v := ?_) (by rfl) rfl ?_ ?_
      rotate_left 2
      · go_simp
        constructor
        · rfl
        · rfl
      have BB5_ : Below V4.drew.heap.size V4.drew (V4.drew.alloc (.cells #[.bool false, .slice none 0 0] 29)) := (Below.refl _ _).alloc (Nat.le_refl _) _
      have PP5_ : Below V4.heap.size V4 (V4.drew.alloc (.cells #[.bool false, .slice none 0 0] 29)) := PP.trans (BB5_.mono PP.size)
      have N85_ := N8.below BB5_
      have GA5_ : (V4.drew.alloc (.cells #[.bool false, .slice none 0 0] 29)).heap[V4.drew.heap.size]? = some (.cells #[.bool false, .slice none 0 0] 29 (0, 0)) := get_new _ _ _ rfl
      have ZZ5_ : V4.heap.size ≤ V4.drew.heap.size := PP.size
      refine hK.out _ _ ⟨(pw_cell_below PP5_ f80), (pw_cell_below PP5_ f81)⟩ (fun hHeld => ?_)
      clear hK K
      refine norm_ (a' := ?_) ?_ ?_
      rotate_left
      · show Act.put _ (some 10) _ = _
        simp only [Act.put, List.setIfInBounds_toArray, List.set_cons_zero, List.set_cons_succ, i64_w, i32_w]
        rfl
      refine one_ (i := 2) (N := some 27) #[true, true, true, false, false, true, false] rfl rfl (by kernel_rfl) (by decide) (fun K hK => ?_)
      refine goes_ Try.func15 (by kernel_rfl) rfl #[.int .i64 a] (by rfl) rfl rfl (by simp only [List.map_toArray, List.map_cons, List.map_nil]; rfl) ?_
      with_reducible refine (of_ a _ a0 a1).mono ?_
      rintro e U5_2_ ⟨v27_, rfl, R25_2_, BB5_2_⟩
      refine ⟨_, rfl, ?_⟩
      have PP5_2_ : Below V4.heap.size V4 U5_2_ := PP5_.trans (BB5_2_.mono PP5_.size)
      have N85_2_ := N85_.below BB5_2_
      have GA5_2_ := (BB5_2_.block _ (blk_lt GA5_)).trans GA5_
      refine hK.out _ _ ⟨(pw_cell_below PP5_2_ f80), (pw_cell_below PP5_2_ f81)⟩ (fun hHeld => ?_)
      clear hK K
      refine norm_ (a' := ?_) ?_ ?_
      rotate_left
      · show Act.put _ (some 27) _ = _
        simp only [Act.put, List.setIfInBounds_toArray, List.set_cons_zero, List.set_cons_succ, i64_w, i32_w]
        rfl
      refine one_ (i := 3) (N := some 28) #[true, true, true, true, false, true, false] rfl rfl (by kernel_rfl) (by decide) (fun K hK => ?_)
      refine goes_ Try.func14 (by kernel_rfl) rfl #[v27_] (by rfl) rfl rfl (by simp only [List.map_toArray, List.map_cons, List.map_nil]; rfl) ?_
      with_reducible refine (minus _ a _ R25_2_).mono ?_
      rintro e U5_2_3_ ⟨v28_, rfl, R35_2_3_, BB5_2_3_⟩
      refine ⟨_, rfl, ?_⟩
      have PP5_2_3_ : Below V4.heap.size V4 U5_2_3_ := PP5_2_.trans (BB5_2_3_.mono PP5_2_.size)
      have N85_2_3_ := N85_2_.below BB5_2_3_
      have GA5_2_3_ := (BB5_2_3_.block _ (blk_lt GA5_2_)).trans GA5_2_
      have R25_2_3_ := R25_2_.below BB5_2_3_
      refine hK.out _ _ ⟨(pw_cell_below PP5_2_3_ f80), (pw_cell_below PP5_2_3_ f81)⟩ (fun hHeld => ?_)
      clear hK K
      refine norm_ (a' := ?_) ?_ ?_
      rotate_left
      · show Act.put _ (some 28) _ = _
        simp only [Act.put, List.setIfInBounds_toArray, List.set_cons_zero, List.set_cons_succ, i64_w, i32_w]
        rfl
      refine one_ (i := 4) (N := some 29) #[true, true, true, true, true, true, false] rfl rfl (by kernel_rfl) (by decide) (fun K hK => ?_)
      refine goes_ Try.func16 (by kernel_rfl) rfl #[.agg #[.bool n8, .slice A8 d8.length c8], v28_] (by rfl) rfl rfl (by simp only [List.map_toArray, List.map_cons, List.map_nil]; rfl) ?_
      with_reducible refine (plus _ _ (p + b) (-a) _ N85_2_3_ R35_2_3_ oh.out.1 oh.out.2 oma.out.1 oma.out.2).mono ?_
      rintro e U5_2_3_4_ ⟨v29_, rfl, R45_2_3_4_, BB5_2_3_4_⟩
      refine ⟨_, rfl, ?_⟩
      have PP5_2_3_4_ : Below V4.heap.size V4 U5_2_3_4_ := PP5_2_3_.trans (BB5_2_3_4_.mono PP5_2_3_.size)
      have N85_2_3_4_ := N85_2_3_.below BB5_2_3_4_
      have GA5_2_3_4_ := (BB5_2_3_4_.block _ (blk_lt GA5_2_3_)).trans GA5_2_3_
      have R25_2_3_4_ := R25_2_3_.below BB5_2_3_4_
      have R35_2_3_4_ := R35_2_3_.below BB5_2_3_4_
      refine hK.out _ _ ⟨(pw_cell_below PP5_2_3_4_ f80), (pw_cell_below PP5_2_3_4_ f81)⟩ (fun hHeld => ?_)
      clear hK K
      refine norm_ (a' := ?_) ?_ ?_
      rotate_left
      · show Act.put _ (some 29) _ = _
        simp only [Act.put, List.setIfInBounds_toArray, List.set_cons_zero, List.set_cons_succ, i64_w, i32_w]
        rfl
      exact norm_ (by simp only [putAll, Act.put, List.setIfInBounds_toArray, List.set_cons_zero, List.set_cons_succ]) (hCont (v27_, v28_, v29_, V4.heap.size) _ ⟨ZZ5_, GA5_2_3_4_, R45_2_3_4_, PP5_2_3_4_⟩)
  rintro ⟨v27_, v28_, v29_, ga⟩ Yga ⟨zzga, gaga, nnga, ppga⟩
  have hHeld : Yga.cell? ⟨g8, 0, none⟩ = some (.bool n8) ∧ Yga.cell? ⟨g8, 1, none⟩ = some (.slice A8 d8.length c8) := ⟨pw_cell_below ppga f80, pw_cell_below ppga f81⟩
  dsimp only at gaga nnga zzga
  refine norm_ (a' := ?_) ?_ ?_
  rotate_left
  · simp only [putAll, Act.put, List.setIfInBounds_toArray, List.set_cons_zero, List.set_cons_succ]
    rfl
  refine last_ (i := 6) (N := none) #[true, true, true, true, true, true, true] rfl rfl (by kernel_rfl) (by decide) (fun K hK => ?_)
  obtain ⟨nga, Aga, cga, dga, rfl, hrga, lga, mga, hxga⟩ := nnga
  have j0 : Yga.cell? ⟨ga, 0, none⟩ = some (.bool false) := (blk_cell gaga 0).trans rfl
  have j1 : Yga.cell? ⟨ga, 1, none⟩ = some (.slice none 0 0) := (blk_cell gaga 1).trans rfl
  have j2 := blk_frozen gaga
  have GAga := Lib.hid gaga
  clear gaga
  refine skip_ (w1 := ?_) (by rfl) rfl ?_ ?_
  rotate_left
  · go_simp
    rfl
  refine hK.out _ _ ?_
  clear hK K
  refine done_ (by kernel_rfl) ?_
  obtain ⟨n9, A9, c9, d9, E9, N90⟩ := box_open B9
  have H9 := Lib.hid E9
  clear E9
  have zgaw : w.heap.size ≤ ga := by have := PB.size; omega
  have hne9a : g9 ≠ ga := by have := blk_lt H9.out; omega
  have Bgan : NBox ((Yga.setCell ⟨ga, 0, none⟩ (.bool nga)).setCell ⟨ga, 1, none⟩ (.slice Aga dga.length cga)) ga (p + b + -a) := nbox_set GAga.out hrga lga mga hxga
  have B9n : NBox ((Yga.setCell ⟨ga, 0, none⟩ (.bool nga)).setCell ⟨ga, 1, none⟩ (.slice Aga dga.length cga)) g9 (a + -p) := nbox_far ((box_mk H9.out N90).below ppga) GAga.out (by have := blk_lt H9.out; omega)
  have PBga : Below w.heap.size w ((Yga.setCell ⟨ga, 0, none⟩ (.bool nga)).setCell ⟨ga, 1, none⟩ (.slice Aga dga.length cga)) := ((PB.trans (ppga.mono PB.size)).setCell (by have := PB.size; simp; omega) _).setCell (by have := PB.size; simp; omega) _
  clear j0 j1 j2 hHeld
  generalize (Yga.setCell ⟨ga, 0, none⟩ (.bool nga)).setCell ⟨ga, 1, none⟩ (.slice Aga dga.length cga) = V5 at *
  have PB := PBga
  have B9 := B9n
  have Ba := Bgan
  clear PBga B9n Bgan ppga GAga hrga hxga H9 N90 H8 f80 f81 N80
  by_cases hb0 : b < 0
  · obtain ⟨n9, A9, c9, d9, E9, N9⟩ := box_open B9
    have f90 : V5.cell? ⟨g9, 0, none⟩ = some (.bool n9) := (blk_cell E9 0).trans rfl
    have f91 : V5.cell? ⟨g9, 1, none⟩ = some (.slice A9 d9.length c9) := (blk_cell E9 1).trans rfl
    have hne : g9 ≠ ga := hne9a
    have H9 := Lib.hid E9
    clear E9
    go_wp2_with fail
    (with_reducible refine (minus _ _ _ N9).mono ?_)
    rintro e V6 ⟨_, rfl, ⟨n1, A1, c1, d1, rfl, hr1, l1, m1, hx1⟩, hB6⟩
    have E9 := (hB6.block _ (blk_lt H9.out)).trans H9.out
    have Ba6 := Ba.below hB6
    have P6 : Below w.heap.size w V6 := PB.trans (hB6.mono PB.size)
    have lt9 := blk_lt E9
    have B9n : NBox ((V6.setCell ⟨g9, 0, none⟩ (.bool n1)).setCell ⟨g9, 1, none⟩ (.slice A1 d1.length c1)) g9 (-(a + -p)) := nbox_set E9 hr1 l1 m1 hx1
    have Ban : NBox ((V6.setCell ⟨g9, 0, none⟩ (.bool n1)).setCell ⟨g9, 1, none⟩ (.slice A1 d1.length c1)) ga (p + b + -a) := nbox_far Ba6 E9 hne.symm
    have P7 : Below w.heap.size w ((V6.setCell ⟨g9, 0, none⟩ (.bool n1)).setCell ⟨g9, 1, none⟩ (.slice A1 d1.length c1)) := (P6.setCell zg9w _).setCell zg9w _
    have j0 : V6.cell? ⟨g9, 0, none⟩ = some (.bool n9) := (blk_cell E9 0).trans rfl
    have j1 : V6.cell? ⟨g9, 1, none⟩ = some (.slice A9 d9.length c9) := (blk_cell E9 1).trans rfl
    have j2 := blk_frozen E9
    obtain ⟨na, Aa, ca, da, Ea, Na⟩ := box_open Ban
    have fa0 : ((V6.setCell ⟨g9, 0, none⟩ (.bool n1)).setCell ⟨g9, 1, none⟩ (.slice A1 d1.length c1)).cell? ⟨ga, 0, none⟩ = some (.bool na) := (blk_cell Ea 0).trans rfl
    have fa1 : ((V6.setCell ⟨g9, 0, none⟩ (.bool n1)).setCell ⟨g9, 1, none⟩ (.slice A1 d1.length c1)).cell? ⟨ga, 1, none⟩ = some (.slice Aa da.length ca) := (blk_cell Ea 1).trans rfl
    have HA := Lib.hid Ea
    clear Ea E9 Ba B9 Ba6 H9
    go_upto_region 7 with fail
    clear j0 j1 j2 f90 f91
    generalize (V6.setCell ⟨g9, 0, none⟩ (.bool n1)).setCell ⟨g9, 1, none⟩ (.slice A1 d1.length c1) = V7 at *
    go_wp2_with fail
    (with_reducible refine (minus _ _ _ Na).mono ?_)
    rintro e V8 ⟨_, rfl, ⟨n2, A2, c2, d2, rfl, hr2, l2, m2, hx2⟩, hB8⟩
    have Ea := (hB8.block _ (blk_lt HA.out)).trans HA.out
    have B96 := B9n.below hB8
    have P8 : Below w.heap.size w V8 := P7.trans (hB8.mono P7.size)
    have Ba : NBox ((V8.setCell ⟨ga, 0, none⟩ (.bool n2)).setCell ⟨ga, 1, none⟩ (.slice A2 d2.length c2)) ga (-(p + b + -a)) := nbox_set Ea hr2 l2 m2 hx2
    have B9 : NBox ((V8.setCell ⟨ga, 0, none⟩ (.bool n2)).setCell ⟨ga, 1, none⟩ (.slice A2 d2.length c2)) g9 (-(a + -p)) := nbox_far B96 Ea hne
    have P9 : Below w.heap.size w ((V8.setCell ⟨ga, 0, none⟩ (.bool n2)).setCell ⟨ga, 1, none⟩ (.slice A2 d2.length c2)) := (P8.setCell zgaw _).setCell zgaw _
    have j0 : V8.cell? ⟨ga, 0, none⟩ = some (.bool na) := (blk_cell Ea 0).trans rfl
    have j1 : V8.cell? ⟨ga, 1, none⟩ = some (.slice Aa da.length ca) := (blk_cell Ea 1).trans rfl
    have j2 := blk_frozen Ea
    clear HA Ea fa0 fa1 B96
    go_upto_region 8 with fail
    clear j0 j1 j2
    generalize (V8.setCell ⟨ga, 0, none⟩ (.bool n2)).setCell ⟨ga, 1, none⟩ (.slice A2 d2.length c2) = V9 at *
    obtain ⟨n9, A9, c9, d9, E9, M9, z9⟩ := box_nm B9
    obtain ⟨na, Aa, ca, da, Ea, Ma, za⟩ := box_nm Ba
    have f90 : V9.cell? ⟨g9, 0, none⟩ = some (.bool n9) := (blk_cell E9 0).trans rfl
    have fa0 : V9.cell? ⟨ga, 0, none⟩ = some (.bool na) := (blk_cell Ea 0).trans rfl
    have fa1 : V9.cell? ⟨ga, 1, none⟩ = some (.slice Aa da.length ca) := (blk_cell Ea 1).trans rfl
    have r : Hid (flB a b q = (!n9 && (!na && decide (0 < (da.length : Int))))) := by
      show _ = _
      rw [M9.neg, Ma.neg, nm_len Ma]; unfold flB; rw [Hbq.out]; rw [if_pos hb0]; exact fl_neg a b p
    clear E9 Ea M9 Ma B9 Ba
    rcases Bool.eq_false_or_eq_true n9 with rfl | rfl <;> rcases Bool.eq_false_or_eq_true na with rfl | rfl
    all_goals
      go_wp2
      go_ret
      exact ⟨by rw [r.out]; simp, P9⟩
  · obtain ⟨n9, A9, c9, d9, E9, M9, z9⟩ := box_nm B9
    obtain ⟨na, Aa, ca, da, Ea, Ma, za⟩ := box_nm Ba
    have f90 : V5.cell? ⟨g9, 0, none⟩ = some (.bool n9) := (blk_cell E9 0).trans rfl
    have fa0 : V5.cell? ⟨ga, 0, none⟩ = some (.bool na) := (blk_cell Ea 0).trans rfl
    have fa1 : V5.cell? ⟨ga, 1, none⟩ = some (.slice Aa da.length ca) := (blk_cell Ea 1).trans rfl
    have r : Hid (flB a b q = (!n9 && (!na && decide (0 < (da.length : Int))))) := by
      show _ = _
      rw [M9.neg, Ma.neg, nm_len Ma]; unfold flB; rw [Hbq.out]; rw [if_neg hb0]; exact fl_pos a b p
    clear E9 Ea M9 Ma B9 Ba
    rcases Bool.eq_false_or_eq_true n9 with rfl | rfl <;> rcases Bool.eq_false_or_eq_true na with rfl | rfl
    all_goals
      go_wp2
      go_ret
      exact ⟨by rw [r.out]; simp, PB⟩
end Go.Proofs.Ytmipifokpogpbaa.RF
