import Derived.Test.YtegkclehijdbiaaVA
set_option linter.unusedSimpArgs false
set_option linter.unusedVariables false
namespace Go.Proofs.Ytegkclehijdbiaa.VB
open Go.RowKit Go.Proofs.YtegkclehijdbiaaW.PrintWords Go.Proofs.YtegkclehijdbiaaW.PrintLast Go.Proofs.Ytegkclehijdbiaa.V1 Go.Proofs.Ytegkclehijdbiaa.V2 Go.Proofs.Ytegkclehijdbiaa.V3 Go.Proofs.Ytegkclehijdbiaa.V4 Go.Proofs.Ytegkclehijdbiaa.V5 Go.Proofs.Ytegkclehijdbiaa.V6 Go.Proofs.Ytegkclehijdbiaa.V8 Go.Proofs.Ytegkclehijdbiaa.V9 Go.Proofs.Ytegkclehijdbiaa.VA

/-- What a border answers. -/
def chk (cs : List Cl) (ls : List (List Vl)) (id mark : Int) : Int := if fitsB cs ls = false then 13 else if id < 1 then 1 else if id ≤ mark then 9 else if mark < id - 1 then 10 else 0

set_option maxRecDepth 20000 in
set_option maxHeartbeats 1000000 in
theorem check19 (g : Nat) (nm : ByteArray) (cs : List Cl) (mark id : Int) (A : Option Addr) (m c : Nat) (ls : List (List Vl)) (w : World) (h : Bo w g nm cs mark) (hr : RdR w A m ls) (m0 : -9223372036854775808 ≤ mark) (m1 : mark ≤ 9223372036854775807) (i0 : -9223372036854775808 ≤ id) (i1 : id ≤ 9223372036854775807) :
    Calls Try.prog 19 #[.pointer (some ⟨g, 0, none⟩), .agg #[.int .i64 id, .slice A m c]] w fun e w' => e = .returned (.int .i64 (chk cs ls id mark)) ∧ Below w.heap.size w w' := by
  have hv := Lib.hid (show chk cs ls id mark = if fitsB cs ls = false then 13 else if id < 1 then 1 else if id ≤ mark then 9 else if mark < id - 1 then 10 else 0 from rfl)
  have P0 : Below w.heap.size w (w.alloc (.cells #[.int .i64 id, .slice A m c] 38)) := by go_grown
  have e0 : (w.alloc (.cells #[.int .i64 id, .slice A m c] 38)).cell? ⟨w.heap.size, 0, none⟩ = some (.int .i64 id) := by go_simp
  have f2 : (w.alloc (.cells #[.int .i64 id, .slice A m c] 38)).cell? ⟨w.heap.size, 1, none⟩ = some (.slice A m c) := by go_simp
  have h := h.below P0
  have hr := rdR_below hr P0
  go_enter Try.func19, Try.ntmps19
  go_upto_region 3 with fail
  generalize w.alloc (.cells #[.int .i64 id, .slice A m c] 38) = W0 at *
  obtain ⟨B, n, d, e, rc, nd, dm⟩ := h.row
  have f0 : W0.cell? ⟨g, 0, none⟩ = some (.string nm) := (blk_cell e 0).trans rfl
  have f1 : W0.cell? ⟨g, 1, none⟩ = some (.slice B n d) := (blk_cell e 1).trans rfl
  have f3 : W0.cell? ⟨g, 2, none⟩ = some (.int .i64 mark) := (blk_cell e 2).trans rfl
  have P0 := Lib.hid P0
  clear e
  refine start_ (n := 9) (S := fun w' => w'.cell? ⟨g, 0, none⟩ = some (.string nm) ∧ w'.cell? ⟨g, 1, none⟩ = some (.slice B n d) ∧ w'.cell? ⟨w.heap.size, 1, none⟩ = some (.slice A m c)) (ds := []) #[false, false, false, false, false, false, false, false, false] (by kernel_rfl) rfl rfl ⟨f0, f1, f2⟩ (fun hHeld => ?_)
  refine pure_ (i := 0) (N := some 9) (v := ?_) (a' := ?_) #[true, false, false, false, false, false, false, false, false] rfl rfl (by kernel_rfl) (fun _ _ _ h => h) (Or.inl ⟨by rfl, ?_⟩) ?_ ?_
  rotate_left
  · intro w'
    go_simp
    with_reducible rfl
  rotate_left
  · simp only [Act.put, List.setIfInBounds_toArray, List.set_cons_zero, List.set_cons_succ, i64_w, i32_w]
    rfl
  refine pure_ (i := 1) (N := some 10) (v := ?_) (a' := ?_) #[true, true, false, false, false, false, false, false, false] rfl rfl (by kernel_rfl) (fun _ _ _ h => h) (Or.inl ⟨by rfl, ?_⟩) ?_ ?_
  rotate_left
  · intro w'
    go_simp
    with_reducible rfl
  rotate_left
  · simp only [Act.put, List.setIfInBounds_toArray, List.set_cons_zero, List.set_cons_succ, i64_w, i32_w]
    rfl
  refine pure_ (i := 2) (N := some 11) (v := ?_) (a' := ?_) #[true, true, true, false, false, false, false, false, false] rfl rfl (by kernel_rfl) (fun _ _ _ h => h) (Or.inl ⟨by rfl, ?_⟩) ?_ ?_
  rotate_left
  · intro w'
    go_simp
    with_reducible rfl
  rotate_left
  · simp only [Act.put, List.setIfInBounds_toArray, List.set_cons_zero, List.set_cons_succ, i64_w, i32_w]
    rfl
  refine pure_ (i := 4) (N := some 13) (v := ?_) (a' := ?_) #[true, true, true, false, true, false, false, false, false] rfl rfl (by kernel_rfl) (fun _ _ _ h => h) (Or.inl ⟨by rfl, ?_⟩) ?_ ?_
  rotate_left
  · intro w'
    go_simp
    with_reducible rfl
  rotate_left
  · simp only [Act.put, List.setIfInBounds_toArray, List.set_cons_zero, List.set_cons_succ, i64_w, i32_w]
    rfl
  refine take_ (i := 3) (N := some 12) (v := ?_) (a' := ?_) #[true, true, true, true, true, false, false, false, false] rfl rfl (by kernel_rfl) (fun _ _ _ h => h) (Or.inl ⟨by rfl, ?_⟩) hHeld ?_ ?_
  rotate_left
  · rintro w' ⟨s0, s1, s2⟩
    go_simp
    with_reducible rfl
  rotate_left
  · simp only [Act.put, List.setIfInBounds_toArray, List.set_cons_zero, List.set_cons_succ, i64_w, i32_w]
    rfl
  refine take_ (i := 5) (N := some 14) (v := ?_) (a' := ?_) #[true, true, true, true, true, true, false, false, false] rfl rfl (by kernel_rfl) (fun _ _ _ h => h) (Or.inl ⟨by rfl, ?_⟩) hHeld ?_ ?_
  rotate_left
  · rintro w' ⟨s0, s1, s2⟩
    go_simp
    with_reducible rfl
  rotate_left
  · simp only [Act.put, List.setIfInBounds_toArray, List.set_cons_zero, List.set_cons_succ, i64_w, i32_w]
    rfl
  refine one_ (i := 6) (N := some 15) #[true, true, true, true, true, true, true, false, false] rfl rfl (by kernel_rfl) (by decide) (fun K hK => ?_)
  refine goes_ Try.func67 (by kernel_rfl) rfl #[.agg #[.string nm, .slice B n d], .slice A m c] (by rfl) rfl rfl (by simp only [List.map_toArray, List.map_cons, List.map_nil]; rfl) ?_
  with_reducible refine (fits67 nm B A n d m c cs ls _ (rdC_below rc (Below.refl _ _).drew) (rdR_below hr (Below.refl _ _).drew)).mono ?_
  rintro e W1 ⟨rfl, hB⟩
  refine ⟨_, rfl, ?_⟩
  have P1 : Below W0.heap.size W0 W1 := (Below.refl _ W0).drew.trans hB
  refine hK.out _ _ ⟨(pw_cell_below P1 f0), (pw_cell_below P1 f1), (pw_cell_below P1 f2)⟩ (fun hHeld => ?_)
  clear hK K
  refine norm_ (a' := ?_) ?_ ?_
  rotate_left
  · show Act.put _ (some 15) _ = _
    simp only [Act.put, List.setIfInBounds_toArray, List.set_cons_zero, List.set_cons_succ, i64_w, i32_w]
    rfl
  refine pure_ (i := 7) (N := some 16) (v := ?_) (a' := ?_) #[true, true, true, true, true, true, true, true, false] rfl rfl (by kernel_rfl) (fun _ _ _ h => h) (Or.inl ⟨by rfl, ?_⟩) ?_ ?_
  rotate_left
  · intro w'
    go_simp
    with_reducible rfl
  rotate_left
  · simp only [Act.put, List.setIfInBounds_toArray, List.set_cons_zero, List.set_cons_succ, i64_w, i32_w]
    rfl
  refine pure_ (i := 8) (N := some 8) (v := ?_) (a' := ?_) #[true, true, true, true, true, true, true, true, true] rfl rfl (by kernel_rfl) (fun _ _ _ h => h) (Or.inl ⟨by rfl, ?_⟩) ?_ ?_
  rotate_left
  · intro w'
    go_simp
    with_reducible rfl
  rotate_left
  · simp only [Act.put, List.setIfInBounds_toArray, List.set_cons_zero, List.set_cons_succ, i64_w, i32_w]
    rfl
  refine done_ (by kernel_rfl) ?_
  have PB := P0.out.trans (P1.mono P0.out.size)
  have g3 := pw_cell_below P1 f3
  have g0 := pw_cell_below P1 e0
  clear f0 f1 f2 f3 e0 hHeld
  cases hf : fitsB cs ls with
  | false =>
    have hF : Hid (chk cs ls id mark = 13) := by show _ = _; rw [hv.out, hf]; rfl
    go_wp2
    go_ret
    exact ⟨by rw [hF.out]; rfl, PB⟩
  | true =>
    rw [hf] at hv
    by_cases h1 : id < 1
    · have hF : Hid (chk cs ls id mark = 1) := by show _ = _; rw [hv.out]; simp [h1]
      go_wp2
      go_ret
      exact ⟨by rw [hF.out]; rfl, PB⟩
    · have k1 : 1 ≤ id := by omega
      go_upto_region 7 with fail
      go_quiet (fail)
      by_cases h2 : id ≤ mark
      · have hF : Hid (chk cs ls id mark = 9) := by show _ = _; rw [hv.out]; simp [h1, h2]
        go_wp2
        go_ret
        exact ⟨by rw [hF.out]; rfl, pw_below_drewN PB _⟩
      · go_upto_region 9 with fail
        go_quiet (fail)
        by_cases h3 : mark < id - 1
        · have hF : Hid (chk cs ls id mark = 10) := by show _ = _; rw [hv.out]; simp [h1, h2, h3]
          go_wp2
          go_ret
          exact ⟨by rw [hF.out]; rfl, pw_below_drewN PB _⟩
        · have hF : Hid (chk cs ls id mark = 0) := by show _ = _; rw [hv.out]; simp [h1, h2, h3]
          go_wp2
          go_ret
          exact ⟨by rw [hF.out]; rfl, pw_below_drewN PB _⟩

set_option maxRecDepth 20000 in
set_option maxHeartbeats 1000000 in
theorem take21 (g : Nat) (nm : ByteArray) (cs : List Cl) (mark id : Int) (A : Option Addr) (m c : Nat) (ls : List (List Vl)) (w : World) (h : Bo w g nm cs mark) (hr : RdR w A m ls) (m0 : -9223372036854775808 ≤ mark) (m1 : mark ≤ 9223372036854775807) (i0 : -9223372036854775808 ≤ id) (i1 : id ≤ 9223372036854775807) :
    Calls Try.prog 21 #[.pointer (some ⟨g, 0, none⟩), .agg #[.int .i64 id, .slice A m c]] w (StR w g nm cs (chk cs ls id mark) (if chk cs ls id mark = 0 then id else mark)) := by
  have P0 : Below w.heap.size w (w.alloc (.cells #[.int .i64 id, .slice A m c] 38)) := by go_grown
  have e0 : (w.alloc (.cells #[.int .i64 id, .slice A m c] 38)).cell? ⟨w.heap.size, 0, none⟩ = some (.int .i64 id) := by go_simp
  have e1 : (w.alloc (.cells #[.int .i64 id, .slice A m c] 38)).cell? ⟨w.heap.size, 1, none⟩ = some (.slice A m c) := by go_simp
  have h1 := h.below P0
  have hr := rdR_below hr P0
  obtain ⟨mk, hmk⟩ : ∃ x : Int, x = if chk cs ls id mark = 0 then id else mark := ⟨_, rfl⟩
  rw [← hmk]
  have Hmk := Lib.hid hmk
  clear hmk
  go_enter Try.func21, Try.ntmps21
  go_wp2_with fail
  generalize w.alloc (.cells #[.int .i64 id, .slice A m c] 38) = W0 at *
  (with_reducible refine (check19 g nm cs mark id A m c ls _ h1 hr m0 m1 i0 i1).mono ?_)
  rintro e W1 ⟨rfl, hB⟩
  have PB := P0.trans (hB.mono P0.size)
  have g0 := pw_cell_below hB e0
  have b1 := h1.below hB
  have s1 := b1.set id
  clear e0 e1
  obtain ⟨B, n, d, e, _⟩ := b1.row
  have f0 : W1.cell? ⟨g, 2, none⟩ = some (.int .i64 mark) := (blk_cell e 2).trans rfl
  have f1 := blk_frozen e
  clear e
  generalize chk cs ls id mark = r at *
  have S1 := Lib.hid s1
  have B1 := Lib.hid b1
  clear s1 b1 h h1
  by_cases hz : r = 0
  · have hF : Hid (mk = id) := by show _ = _; rw [Hmk.out, if_pos hz]
    subst hz
    go_wp2
    go_ret
    exact ⟨rfl, by rw [hF.out]; exact S1.out, fun b hb hb2 => (PB.mono hb2).setCell hb _⟩
  · have hF : Hid (mk = mark) := by show _ = _; rw [Hmk.out, if_neg hz]
    have hz2 : (r == 0) = false := by simpa using hz
    go_wp2
    go_ret
    exact ⟨rfl, by rw [hF.out]; exact B1.out, fun b hb hb2 => PB.mono hb2⟩
end Go.Proofs.Ytegkclehijdbiaa.VB
