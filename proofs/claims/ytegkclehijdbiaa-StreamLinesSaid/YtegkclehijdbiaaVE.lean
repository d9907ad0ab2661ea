import Derived.Test.YtegkclehijdbiaaMA
import Derived.Deep.DeepCutAuto
import Derived.Deep.CutBlock
import Derived.Deep.LoopGhost
set_option linter.unusedSimpArgs false
set_option linter.unusedVariables false
namespace Go.Proofs.Ytegkclehijdbiaa.VE
open Go.RowKit Go.Proofs.YtegkclehijdbiaaW.PrintWords Go.Proofs.YtegkclehijdbiaaW.PrintLast Go.Proofs.Ytegkclehijdbiaa.V1 Go.Proofs.Ytegkclehijdbiaa.V2 Go.Proofs.Ytegkclehijdbiaa.V3 Go.Proofs.Ytegkclehijdbiaa.V4 Go.Proofs.Ytegkclehijdbiaa.V5 Go.Proofs.Ytegkclehijdbiaa.V6 Go.Proofs.Ytegkclehijdbiaa.V8 Go.Proofs.Ytegkclehijdbiaa.V9 Go.Proofs.Ytegkclehijdbiaa.VA Go.Proofs.Ytegkclehijdbiaa.VB Go.Proofs.Ytegkclehijdbiaa.VC Go.Proofs.Ytegkclehijdbiaa.VD

set_option maxRecDepth 20000 in
set_option maxHeartbeats 4000000 in
/-- StreamBorders. -/
theorem law (nm : ByteArray) (A L : Option Addr) (n c m d : Nat) (cs : List Cl) (bs : List Bt) (mark : Int) (w : World) (hnm : nm.size ≤ 9223372036854775807) (hc : RdC w A n cs) (hl : RdB w L m bs) (m0 : -9223372036854775808 ≤ mark) (m1 : mark ≤ 9223372036854775807) :
    Calls Try.prog 3 #[.agg #[.string nm, .slice A n c], .int .i64 mark, .slice L m d] w fun e w' => e = .returned (.bool true) ∧ Below w.heap.size w w' := by
  have hm := hl.2.1
  have P0 : Below w.heap.size w (w.alloc (.cells #[.string nm, .slice A n c] 24)) := by go_grown
  have z0 : w.heap.size + 1 ≤ (w.alloc (.cells #[.string nm, .slice A n c] 24)).heap.size := by simp
  have f0 : (w.alloc (.cells #[.string nm, .slice A n c] 24)).cell? ⟨w.heap.size, 0, none⟩ = some (.string nm) := by go_simp
  have f1 : (w.alloc (.cells #[.string nm, .slice A n c] 24)).cell? ⟨w.heap.size, 1, none⟩ = some (.slice A n c) := by go_simp
  have hc0 := rdC_below hc P0
  have hl0 := rdB_below hl P0
  go_enter Try.func3, Try.ntmps3
  go_wp2_with fail
  generalize w.alloc (.cells #[.string nm, .slice A n c] 24) = W0 at *
  (with_reducible refine (great12 nm A L n c m d cs bs _ hnm hc0 hl0).mono ?_)
  rintro e W1 ⟨G, rfl, hG, hB⟩
  have P1 := P0.trans (hB.mono P0.size)
  have B1 := hB
  have f0 := pw_cell_below hB f0
  have f1 := pw_cell_below hB f1
  have z1 : w.heap.size + 1 ≤ W1.heap.size := Nat.le_trans z0 hB.size
  clear hc0 hl0 P0 hB B1
  cases G with
  | true =>
    go_wp2_with fail
    (with_reducible refine (awake13 _).mono ?_)
    rintro e W2 ⟨rfl, hB⟩
    go_wp2
    go_ret
    exact ⟨rfl, P1.trans (hB.mono P1.size)⟩
  | false =>
    obtain ⟨gn, gm⟩ := hG rfl
    go_wp2_with fail
    (with_reducible refine (awake13 _).mono ?_)
    rintro e W2 ⟨rfl, hB⟩
    have P2 := P1.trans (hB.mono P1.size)
    have f0 := pw_cell_below hB f0
    have f1 := pw_cell_below hB f1
    have z2 : w.heap.size + 1 ≤ W2.heap.size := Nat.le_trans z1 hB.size
    clear hB
    go_wp2_with fail
    (with_reducible refine (border14 nm A n c cs _ hnm (rdC_below hc P2) (by omega)).mono ?_)
    rintro e W3 (⟨hr, rfl, hB⟩ | ⟨hr, g, rfl, hg, hb, hB⟩)
    · have P3 := P2.trans (hB.mono P2.size)
      have f0 := pw_cell_below hB f0
      have f1 := pw_cell_below hB f1
      go_wp2_with fail
      (with_reducible refine (V7.right15 nm A n c cs _ hnm (rdC_below hc P3)).mono ?_)
      rintro e W4 ⟨rfl, hB4⟩
      rw [hr]
      go_wp2
      go_ret
      exact ⟨rfl, P3.trans (hB4.mono P3.size)⟩
    have P3 := P2.trans (hB.mono P2.size)
    have f0 := pw_cell_below hB f0
    have f1 := pw_cell_below hB f1
    have hgw : w.heap.size ≤ g := by have := P2.size; omega
    have hgw1 : w.heap.size + 1 ≤ g := by omega
    go_wp2_with fail
    (with_reducible refine (V7.right15 nm A n c cs _ hnm (rdC_below hc P3)).mono ?_)
    rintro e X ⟨rfl, hB4⟩
    rw [hr]
    have PX := P3.trans (hB4.mono P3.size)
    have f0 := pw_cell_below hB4 f0
    have f1 := pw_cell_below hB4 f1
    have hb := hb.below hB4
    have zX : w.heap.size + 1 ≤ X.heap.size := by have := hB.size; have := hB4.size; omega
    clear hB hB4 P1 P2 P3 z0 z1 z2
    go_upto_region 6 with fail
    go_cut [55] (fun v wx => v = .bool false ∧ Bo wx g nm cs (if mark < 0 then 0 else mark) ∧ Below w.heap.size w wx ∧ wx.cell? ⟨w.heap.size, 1, none⟩ = some (.slice A n c) ∧ w.heap.size + 1 ≤ wx.heap.size)
    case first =>
      refine start_ (n := 22) (S := fun w' => w'.cell? ⟨w.heap.size, 0, none⟩ = some (.string nm)) (ds := []) #[false, false, false, false, false, false, false, false, false, false, false, false, false, false, false, false, false, false, false, false, false, false] (by kernel_rfl) rfl rfl (f0) (fun hHeld => ?_)
      refine pure_ (i := 0) (N := some 34) (v := ?_) (a' := ?_) #[true, false, false, false, false, false, false, false, false, false, false, false, false, false, false, false, false, false, false, false, false, false] rfl rfl (by kernel_rfl) (fun _ _ _ h => h) (Or.inl ⟨by rfl, ?_⟩) ?_ ?_
      rotate_left
      · intro w'
        go_simp
        with_reducible rfl
      rotate_left
      · simp only [Act.put, List.setIfInBounds_toArray, List.set_cons_zero, List.set_cons_succ, i64_w, i32_w]
        rfl
      refine pure_ (i := 1) (N := some 35) (v := ?_) (a' := ?_) #[true, true, false, false, false, false, false, false, false, false, false, false, false, false, false, false, false, false, false, false, false, false] rfl rfl (by kernel_rfl) (fun _ _ _ h => h) (Or.inl ⟨by rfl, ?_⟩) ?_ ?_
      rotate_left
      · intro w'
        go_simp
        with_reducible rfl
      rotate_left
      · simp only [Act.put, List.setIfInBounds_toArray, List.set_cons_zero, List.set_cons_succ, i64_w, i32_w]
        rfl
      refine pure_ (i := 2) (N := some 36) (v := ?_) (a' := ?_) #[true, true, true, false, false, false, false, false, false, false, false, false, false, false, false, false, false, false, false, false, false, false] rfl rfl (by kernel_rfl) (fun _ _ _ h => h) (Or.inl ⟨by rfl, ?_⟩) ?_ ?_
      rotate_left
      · intro w'
        go_simp
        with_reducible rfl
      rotate_left
      · simp only [Act.put, List.setIfInBounds_toArray, List.set_cons_zero, List.set_cons_succ, i64_w, i32_w]
        rfl
      refine pure_ (i := 3) (N := some 37) (v := ?_) (a' := ?_) #[true, true, true, true, false, false, false, false, false, false, false, false, false, false, false, false, false, false, false, false, false, false] rfl rfl (by kernel_rfl) (fun _ _ _ h => h) (Or.inl ⟨by rfl, ?_⟩) ?_ ?_
      rotate_left
      · intro w'
        go_simp
        with_reducible rfl
      rotate_left
      · simp only [Act.put, List.setIfInBounds_toArray, List.set_cons_zero, List.set_cons_succ, i64_w, i32_w]
        rfl
      refine pure_ (i := 4) (N := some 38) (v := ?_) (a' := ?_) #[true, true, true, true, true, false, false, false, false, false, false, false, false, false, false, false, false, false, false, false, false, false] rfl rfl (by kernel_rfl) (fun _ _ _ h => h) (Or.inl ⟨by rfl, ?_⟩) ?_ ?_
      rotate_left
      · intro w'
        go_simp
        with_reducible rfl
      rotate_left
      · simp only [Act.put, List.setIfInBounds_toArray, List.set_cons_zero, List.set_cons_succ, i64_w, i32_w]
        rfl
      refine pure_ (i := 5) (N := some 39) (v := ?_) (a' := ?_) #[true, true, true, true, true, true, false, false, false, false, false, false, false, false, false, false, false, false, false, false, false, false] rfl rfl (by kernel_rfl) (fun _ _ _ h => h) (Or.inl ⟨by rfl, ?_⟩) ?_ ?_
      rotate_left
      · intro w'
        go_simp
        with_reducible rfl
      rotate_left
      · simp only [Act.put, List.setIfInBounds_toArray, List.set_cons_zero, List.set_cons_succ, i64_w, i32_w]
        rfl
      refine pure_ (i := 6) (N := some 40) (v := ?_) (a' := ?_) #[true, true, true, true, true, true, true, false, false, false, false, false, false, false, false, false, false, false, false, false, false, false] rfl rfl (by kernel_rfl) (fun _ _ _ h => h) (Or.inl ⟨by rfl, ?_⟩) ?_ ?_
      rotate_left
      · intro w'
        go_simp
        with_reducible rfl
      rotate_left
      · simp only [Act.put, List.setIfInBounds_toArray, List.set_cons_zero, List.set_cons_succ, i64_w, i32_w]
        rfl
      refine pure_ (i := 7) (N := some 41) (v := ?_) (a' := ?_) #[true, true, true, true, true, true, true, true, false, false, false, false, false, false, false, false, false, false, false, false, false, false] rfl rfl (by kernel_rfl) (fun _ _ _ h => h) (Or.inl ⟨by rfl, ?_⟩) ?_ ?_
      rotate_left
      · intro w'
        go_simp
        with_reducible rfl
      rotate_left
      · simp only [Act.put, List.setIfInBounds_toArray, List.set_cons_zero, List.set_cons_succ, i64_w, i32_w]
        rfl
      refine pure_ (i := 9) (N := some 43) (v := ?_) (a' := ?_) #[true, true, true, true, true, true, true, true, false, true, false, false, false, false, false, false, false, false, false, false, false, false] rfl rfl (by kernel_rfl) (fun _ _ _ h => h) (Or.inl ⟨by rfl, ?_⟩) ?_ ?_
      rotate_left
      · intro w'
        go_simp
        with_reducible rfl
      rotate_left
      · simp only [Act.put, List.setIfInBounds_toArray, List.set_cons_zero, List.set_cons_succ, i64_w, i32_w]
        rfl
      refine take_ (i := 10) (N := some 44) (v := ?_) (a' := ?_) #[true, true, true, true, true, true, true, true, false, true, true, false, false, false, false, false, false, false, false, false, false, false] rfl rfl (by kernel_rfl) (fun _ _ _ h => h) (Or.inl ⟨by rfl, ?_⟩) hHeld ?_ ?_
      rotate_left
      · intro w' s0
        go_simp
        with_reducible rfl
      rotate_left
      · simp only [Act.put, List.setIfInBounds_toArray, List.set_cons_zero, List.set_cons_succ, i64_w, i32_w]
        rfl
      refine one_ (i := 8) (N := some 42) #[true, true, true, true, true, true, true, true, true, true, true, false, false, false, false, false, false, false, false, false, false, false] rfl rfl (by kernel_rfl) (by decide) (fun K hK => ?_)
      refine goes_ Try.func16 (by kernel_rfl) rfl #[.pointer (some ⟨g, 0, none⟩)] (by rfl) rfl rfl (by simp only [List.map_toArray, List.map_cons, List.map_nil]; rfl) ?_
      with_reducible refine (name16 g nm cs 0 _ (hb.below (Below.refl _ _).drew)).mono ?_
      rintro e U1 ⟨rfl, hU1⟩
      refine ⟨_, rfl, ?_⟩
      have PU : Below X.heap.size X U1 := hU1 ▸ (Below.refl _ X).drew
      refine hK.out _ _ ((pw_cell_below PU f0)) (fun hHeld => ?_)
      clear hK K
      refine norm_ (a' := ?_) ?_ ?_
      rotate_left
      · show Act.put _ (some 42) _ = _
        simp only [Act.put, List.setIfInBounds_toArray, List.set_cons_zero, List.set_cons_succ, i64_w, i32_w]
        rfl
      refine pure_ (i := 11) (N := some 45) (v := ?_) (a' := ?_) #[true, true, true, true, true, true, true, true, true, true, true, true, false, false, false, false, false, false, false, false, false, false] rfl rfl (by kernel_rfl) (fun _ _ _ h => h) (Or.inl ⟨by rfl, ?_⟩) ?_ ?_
      rotate_left
      · intro w'
        go_simp
        with_reducible rfl
      rotate_left
      · simp only [Act.put, List.setIfInBounds_toArray, List.set_cons_zero, List.set_cons_succ, i64_w, i32_w]
        rfl
      refine pure_ (i := 12) (N := some 46) (v := ?_) (a' := ?_) #[true, true, true, true, true, true, true, true, true, true, true, true, true, false, false, false, false, false, false, false, false, false] rfl rfl (by kernel_rfl) (fun _ _ _ h => h) (Or.inl ⟨by rfl, ?_⟩) ?_ ?_
      rotate_left
      · intro w'
        go_simp
        with_reducible rfl
      rotate_left
      · simp only [Act.put, List.setIfInBounds_toArray, List.set_cons_zero, List.set_cons_succ, i64_w, i32_w]
        rfl
      refine pure_ (i := 13) (N := some 47) (v := ?_) (a' := ?_) #[true, true, true, true, true, true, true, true, true, true, true, true, true, true, false, false, false, false, false, false, false, false] rfl rfl (by kernel_rfl) (fun _ _ _ h => h) (Or.inl ⟨by rfl, ?_⟩) ?_ ?_
      rotate_left
      · intro w'
        go_simp
        with_reducible rfl
      rotate_left
      · simp only [Act.put, List.setIfInBounds_toArray, List.set_cons_zero, List.set_cons_succ, i64_w, i32_w]
        rfl
      refine pure_ (i := 14) (N := some 48) (v := ?_) (a' := ?_) #[true, true, true, true, true, true, true, true, true, true, true, true, true, true, true, false, false, false, false, false, false, false] rfl rfl (by kernel_rfl) (fun _ _ _ h => h) (Or.inl ⟨by rfl, ?_⟩) ?_ ?_
      rotate_left
      · intro w'
        go_simp
        with_reducible rfl
      rotate_left
      · simp only [Act.put, List.setIfInBounds_toArray, List.set_cons_zero, List.set_cons_succ, i64_w, i32_w]
        rfl
      refine pure_ (i := 15) (N := some 49) (v := ?_) (a' := ?_) #[true, true, true, true, true, true, true, true, true, true, true, true, true, true, true, true, false, false, false, false, false, false] rfl rfl (by kernel_rfl) (fun _ _ _ h => h) (Or.inl ⟨by rfl, ?_⟩) ?_ ?_
      rotate_left
      · intro w'
        go_simp
        with_reducible rfl
      rotate_left
      · simp only [Act.put, List.setIfInBounds_toArray, List.set_cons_zero, List.set_cons_succ, i64_w, i32_w]
        rfl
      refine pure_ (i := 18) (N := some 52) (v := ?_) (a' := ?_) #[true, true, true, true, true, true, true, true, true, true, true, true, true, true, true, true, false, false, true, false, false, false] rfl rfl (by kernel_rfl) (fun _ _ _ h => h) (Or.inl ⟨by rfl, ?_⟩) ?_ ?_
      rotate_left
      · intro w'
        go_simp
        with_reducible rfl
      rotate_left
      · simp only [Act.put, List.setIfInBounds_toArray, List.set_cons_zero, List.set_cons_succ, i64_w, i32_w]
        rfl
      refine pure_ (i := 19) (N := some 53) (v := ?_) (a' := ?_) #[true, true, true, true, true, true, true, true, true, true, true, true, true, true, true, true, false, false, true, true, false, false] rfl rfl (by kernel_rfl) (fun _ _ _ h => h) (Or.inl ⟨by rfl, ?_⟩) ?_ ?_
      rotate_left
      · intro w'
        go_simp
        with_reducible rfl
      rotate_left
      · simp only [Act.put, List.setIfInBounds_toArray, List.set_cons_zero, List.set_cons_succ, i64_w, i32_w]
        rfl
      refine one_ (i := 16) (N := some 50) #[true, true, true, true, true, true, true, true, true, true, true, true, true, true, true, true, true, false, true, true, false, false] rfl rfl (by kernel_rfl) (by decide) (fun K hK => ?_)
      refine goes_ Try.func17 (by kernel_rfl) rfl #[.pointer (some ⟨g, 0, none⟩), .int .i64 mark] (by rfl) rfl rfl (by simp only [List.map_toArray, List.map_cons, List.map_nil]; rfl) ?_
      with_reducible refine (set17 g nm cs 0 mark _ (hb.below PU)).mono ?_
      rintro e U2 ⟨rfl, hb2, hU2⟩
      refine ⟨_, rfl, ?_⟩
      have PW : Below w.heap.size w U2 := (PX.trans (PU.mono PX.size)).trans (hU2 _ hgw (Nat.le_trans PX.size PU.size))
      have f0U : U2.cell? ⟨w.heap.size, 0, none⟩ = some (.string nm) := ((hU2 (w.heap.size + 1) hgw1 (by have := PU.size; omega)).cell (p := ⟨w.heap.size, 0, none⟩) (Nat.lt_succ_self _)).trans (pw_cell_below PU f0)
      refine hK.out _ _ (f0U) (fun hHeld => ?_)
      clear hK K
      refine norm_ (a' := ?_) ?_ ?_
      rotate_left
      · show Act.put _ (some 50) _ = _
        simp only [Act.put, List.setIfInBounds_toArray, List.set_cons_zero, List.set_cons_succ, i64_w, i32_w]
        rfl
      refine pure_ (i := 17) (N := some 51) (v := ?_) (a' := ?_) #[true, true, true, true, true, true, true, true, true, true, true, true, true, true, true, true, true, true, true, true, false, false] rfl rfl (by kernel_rfl) (fun _ _ _ h => h) (Or.inl ⟨by rfl, ?_⟩) ?_ ?_
      rotate_left
      · intro w'
        go_simp
        with_reducible rfl
      rotate_left
      · simp only [Act.put, List.setIfInBounds_toArray, List.set_cons_zero, List.set_cons_succ, i64_w, i32_w]
        rfl
      refine pure_ (i := 20) (N := some 54) (v := ?_) (a' := ?_) #[true, true, true, true, true, true, true, true, true, true, true, true, true, true, true, true, true, true, true, true, true, false] rfl rfl (by kernel_rfl) (fun _ _ _ h => h) (Or.inl ⟨by rfl, ?_⟩) ?_ ?_
      rotate_left
      · intro w'
        go_simp
        with_reducible rfl
      rotate_left
      · simp only [Act.put, List.setIfInBounds_toArray, List.set_cons_zero, List.set_cons_succ, i64_w, i32_w]
        rfl
      refine pure_ (i := 21) (N := some 55) (v := ?_) (a' := ?_) #[true, true, true, true, true, true, true, true, true, true, true, true, true, true, true, true, true, true, true, true, true, true] rfl rfl (by kernel_rfl) (fun _ _ _ h => h) (Or.inl ⟨by rfl, ?_⟩) ?_ ?_
      rotate_left
      · intro w'
        go_simp
        with_reducible rfl
      rotate_left
      · simp only [Act.put, List.setIfInBounds_toArray, List.set_cons_zero, List.set_cons_succ, i64_w, i32_w]
        rfl
      refine done_ (by kernel_rfl) ?_
      have zU : w.heap.size + 1 ≤ U2.heap.size := World.block_lt_of_cell? U2 _ f0U
      have f1U : U2.cell? ⟨w.heap.size, 1, none⟩ = some (.slice A n c) := ((hU2 (w.heap.size + 1) hgw1 (by have := PU.size; omega)).cell (p := ⟨w.heap.size, 1, none⟩) (Nat.lt_succ_self _)).trans (pw_cell_below PU f1)
      clear hHeld hU2 PU hU1 f0 f1 f0U hb zX PX
      by_cases hmk : mark < 0
      · rw [if_pos hmk]
        have hd : decide (0 ≤ mark) = false := decide_eq_false (by omega)
        go_wp2
        all_goals
          go_meet
          case rel => exact ⟨by rw [hd]; rfl, hb2, PW, f1U, zU⟩
      · rw [if_neg hmk]
        have hd : decide (0 ≤ mark) = true := decide_eq_true (by omega)
        go_wp2
        all_goals
          go_meet
          case rel => exact ⟨rfl, hb2, PW, f1U, zU⟩
    case rest =>
      obtain ⟨rfl, hb2, PW, f1U, zU⟩ := hcut
      have hnw : Hid ((if mark < 0 then 0 else mark) = max mark 0) := by show _ = _; split <;> omega
      rw [hnw.out] at hb2
      clear hb f0 f1 zX PX
      go_upto_region 8 with fail
      go_cut [9] (fun v wx => v = .int .i64 (max mark 0) ∧ wx = wc)
      case first =>
        go_wp2
        all_goals
          go_meet
          case rel => exact ⟨by congr 1; omega, rfl⟩
      case rest =>
        obtain ⟨rfl, hw⟩ := hcut
        subst hw
        generalize wc = U2 at *
        have e0 : 0 ≤ max mark 0 := by omega
        have e1 : max mark 0 ≤ 9223372036854775807 := by omega
        clear hnw
        generalize max mark 0 = mk at *
        go_wp2
        go_loopg [10, 9] m (fun kq i nn wr => ∃ (k : Nat) (nw : Int), i = .int .i64 k ∧ nn = .int .i64 nw ∧ k ≤ m ∧ kq = m - k ∧ 0 ≤ nw ∧ nw ≤ 9223372036854775807 ∧ Bo wr g nm cs nw ∧ Below (w.heap.size + 1) U2 wr)
        case atStart => exact ⟨0, mk, rfl, rfl, by omega, rfl, e0, e1, hb2, Below.refl _ _⟩
        case round =>
          obtain ⟨k, nw, rfl, rfl, hk, rfl, nw0, nw1, hbo, bel⟩ := hrel
          have Pw : Below w.heap.size w wr := PW.trans (bel.mono (Nat.le_succ _))
          have g1 : wr.cell? ⟨w.heap.size, 1, none⟩ = some (.slice A n c) := (bel.cell (p := ⟨w.heap.size, 1, none⟩) (Nat.lt_succ_self _)).trans f1U
          by_cases hlt : k < m
          · have hcr := rdC_below hc Pw
            obtain ⟨gl, o, rfl, ⟨A1, n1, c1, y0, z1, hr1, h1, h2, i0, i1⟩, q2⟩ := (rdB_below hl Pw).at_ hlt
            have q0 : (0 : Int) ≤ (k : Int) := by omega
            have q1 : (k : Int) < (m : Int) := by omega
            go_upto_block 2 with fail
            go_cut [11] (fun v wx => v = .int .i64 (chk cs (el bs k).rows (el bs k).id nw) ∧ Below wr.heap.size wr wx)
            case first =>
              go_upto_region 13 with fail
              refine start_ (n := 10) (S := fun w' => w'.cell? ⟨w.heap.size, 1, none⟩ = some (.slice A n c) ∧ w'.cell? ⟨gl, o + k * 2 + 1, none⟩ = some (.slice A1 n1 c1)) (ds := []) #[false, false, false, false, false, false, false, false, false, false] (by kernel_rfl) rfl rfl ⟨g1, z1⟩ (fun hHeld => ?_)
              refine pure_ (i := 0) (N := some 65) (v := ?_) (a' := ?_) #[true, false, false, false, false, false, false, false, false, false] rfl rfl (by kernel_rfl) (fun _ _ _ h => h) (Or.inl ⟨by rfl, ?_⟩) ?_ ?_
              rotate_left
              · intro w'
                go_simp
                with_reducible rfl
              rotate_left
              · simp only [Act.put, List.setIfInBounds_toArray, List.set_cons_zero, List.set_cons_succ, i64_w, i32_w]
                rfl
              refine pure_ (i := 2) (N := some 67) (v := ?_) (a' := ?_) #[true, false, true, false, false, false, false, false, false, false] rfl rfl (by kernel_rfl) (fun _ _ _ h => h) (Or.inl ⟨by rfl, ?_⟩) ?_ ?_
              rotate_left
              · intro w'
                go_simp
                with_reducible rfl
              rotate_left
              · simp only [Act.put, List.setIfInBounds_toArray, List.set_cons_zero, List.set_cons_succ, i64_w, i32_w]
                rfl
              refine pure_ (i := 3) (N := some 68) (v := ?_) (a' := ?_) #[true, false, true, true, false, false, false, false, false, false] rfl rfl (by kernel_rfl) (fun _ _ _ h => h) (Or.inl ⟨by rfl, ?_⟩) ?_ ?_
              rotate_left
              · intro w'
                go_simp
                with_reducible rfl
              rotate_left
              · simp only [Act.put, List.setIfInBounds_toArray, List.set_cons_zero, List.set_cons_succ, i64_w, i32_w]
                rfl
              refine pure_ (i := 4) (N := some 69) (v := ?_) (a' := ?_) #[true, false, true, true, true, false, false, false, false, false] rfl rfl (by kernel_rfl) (fun _ _ _ h => h) (Or.inl ⟨by rfl, ?_⟩) ?_ ?_
              rotate_left
              · intro w'
                go_simp
                with_reducible rfl
              rotate_left
              · simp only [Act.put, List.setIfInBounds_toArray, List.set_cons_zero, List.set_cons_succ, i64_w, i32_w]
                rfl
              refine pure_ (i := 5) (N := some 70) (v := ?_) (a' := ?_) #[true, false, true, true, true, true, false, false, false, false] rfl rfl (by kernel_rfl) (fun _ _ _ h => h) (Or.inl ⟨by rfl, ?_⟩) ?_ ?_
              rotate_left
              · intro w'
                go_simp
                with_reducible rfl
              rotate_left
              · simp only [Act.put, List.setIfInBounds_toArray, List.set_cons_zero, List.set_cons_succ, i64_w, i32_w]
                rfl
              refine take_ (i := 1) (N := some 66) (v := ?_) (a' := ?_) #[true, true, true, true, true, true, false, false, false, false] rfl rfl (by kernel_rfl) (fun _ _ _ h => h) (Or.inl ⟨by rfl, ?_⟩) hHeld ?_ ?_
              rotate_left
              · rintro w' ⟨s0, s1⟩
                go_simp
                with_reducible rfl
              rotate_left
              · simp only [Act.put, List.setIfInBounds_toArray, List.set_cons_zero, List.set_cons_succ, i64_w, i32_w]
                rfl
              refine take_ (i := 6) (N := some 71) (v := ?_) (a' := ?_) #[true, true, true, true, true, true, true, false, false, false] rfl rfl (by kernel_rfl) (fun _ _ _ h => h) (Or.inl ⟨by rfl, ?_⟩) hHeld ?_ ?_
              rotate_left
              · rintro w' ⟨s0, s1⟩
                go_simp
                with_reducible rfl
              rotate_left
              · simp only [Act.put, List.setIfInBounds_toArray, List.set_cons_zero, List.set_cons_succ, i64_w, i32_w]
                rfl
              refine one_ (i := 7) (N := some 72) #[true, true, true, true, true, true, true, true, false, false] rfl rfl (by kernel_rfl) (by decide) (fun K hK => ?_)
              refine goes_ Try.func18 (by kernel_rfl) rfl #[.slice A n c, .slice A1 n1 c1] (by rfl) rfl rfl (by simp only [List.map_toArray, List.map_cons, List.map_nil]; rfl) ?_
              with_reducible refine (fits18 A A1 n c n1 c1 cs (el bs k).rows _ (rdC_below hcr (Below.refl _ _).drew) (rdR_below hr1 (Below.refl _ _).drew)).mono ?_
              rintro e Y1 ⟨rfl, hY⟩
              refine ⟨_, rfl, ?_⟩
              have PY : Below wr.heap.size wr Y1 := (Below.refl _ wr).drew.trans hY
              refine hK.out _ _ ⟨(pw_cell_below PY g1), (pw_cell_below PY z1)⟩ (fun hHeld => ?_)
              clear hK K
              refine norm_ (a' := ?_) ?_ ?_
              rotate_left
              · show Act.put _ (some 72) _ = _
                simp only [Act.put, List.setIfInBounds_toArray, List.set_cons_zero, List.set_cons_succ, i64_w, i32_w]
                rfl
              refine pure_ (i := 8) (N := some 73) (v := ?_) (a' := ?_) #[true, true, true, true, true, true, true, true, true, false] rfl rfl (by kernel_rfl) (fun _ _ _ h => h) (Or.inl ⟨by rfl, ?_⟩) ?_ ?_
              rotate_left
              · intro w'
                go_simp
                with_reducible rfl
              rotate_left
              · simp only [Act.put, List.setIfInBounds_toArray, List.set_cons_zero, List.set_cons_succ, i64_w, i32_w]
                rfl
              refine pure_ (i := 9) (N := some 64) (v := ?_) (a' := ?_) #[true, true, true, true, true, true, true, true, true, true] rfl rfl (by kernel_rfl) (fun _ _ _ h => h) (Or.inl ⟨by rfl, ?_⟩) ?_ ?_
              rotate_left
              · intro w'
                go_simp
                with_reducible rfl
              rotate_left
              · simp only [Act.put, List.setIfInBounds_toArray, List.set_cons_zero, List.set_cons_succ, i64_w, i32_w]
                rfl
              refine done_ (by kernel_rfl) ?_
              have y1 := pw_cell_below PY y0
              clear y0 z1 g1 hHeld
              cases hf : fitsB cs (el bs k).rows with
              | false =>
                have hk : Hid (chk cs (el bs k).rows (el bs k).id nw = 13) := by show _ = _; unfold chk; rw [if_pos hf]
                go_wp2
                go_meet
                case rel => exact ⟨by rw [hk.out], PY⟩
              | true =>
                have hf2 : ¬ fitsB cs (el bs k).rows = false := by rw [hf]; decide
                by_cases h1' : (el bs k).id < 1
                · skip
                  have hk : Hid (chk cs (el bs k).rows (el bs k).id nw = 1) := by show _ = _; unfold chk; rw [if_neg hf2, if_pos h1']
                  go_wp2
                  go_meet
                  case rel => exact ⟨by rw [hk.out], PY⟩
                · by_cases h2' : (el bs k).id ≤ nw
                  · skip
                    have hk : Hid (chk cs (el bs k).rows (el bs k).id nw = 9) := by show _ = _; unfold chk; rw [if_neg hf2, if_neg h1', if_pos h2']
                    go_wp2
                    go_meet
                    case rel => exact ⟨by rw [hk.out], PY⟩
                  · by_cases h3' : nw < (el bs k).id - 1
                    · skip
                      have hk : Hid (chk cs (el bs k).rows (el bs k).id nw = 10) := by show _ = _; unfold chk; rw [if_neg hf2, if_neg h1', if_neg h2', if_pos h3']
                      go_wp2
                      go_meet
                      case rel => exact ⟨by rw [hk.out], PY⟩
                    · skip
                      have hk : Hid (chk cs (el bs k).rows (el bs k).id nw = 0) := by show _ = _; unfold chk; rw [if_neg hf2, if_neg h1', if_neg h2', if_neg h3']
                      go_wp2
                      go_meet
                      case rel => exact ⟨by rw [hk.out], PY⟩
            case rest =>
              obtain ⟨rfl, PY⟩ := hcut
              generalize wc = Y1 at *
              have PT : Below (w.heap.size + 1) U2 Y1 := bel.trans (PY.mono (Nat.le_trans zU bel.size))
              have hbY := hbo.below PY
              have hrY := rdR_below hr1 PY
              have y1 := pw_cell_below PY y0
              have zY := pw_cell_below PY z1
              have y0w : w.cell? ⟨gl, o + k * 2, none⟩ = some (.int .i64 (el bs k).id) := by
                obtain ⟨gl', o', he, ⟨A1', n1', c1', y0w, z1w, _⟩, _⟩ := (hl.at_ hlt)
                cases he
                exact y0w
              clear y0 z1 g1
              go_wp2_with fail
              (with_reducible refine (check19 g nm cs nw (el bs k).id A1 n1 c1 (el bs k).rows _ hbY hrY (by omega) nw1 i0 i1).mono ?_)
              rintro e Y2 ⟨rfl, hY2⟩
              have hbZ := hbY.below hY2
              have hrZ := rdR_below hrY hY2
              have P2 := PT.trans (hY2.mono (Nat.le_trans zU PT.size))
              have y2 := pw_cell_below hY2 y1
              have z2 := pw_cell_below hY2 zY
              go_wp2_with fail
              (with_reducible refine (mark20 g nm cs nw _ hbZ).mono ?_)
              rintro e Z ⟨rfl, rfl⟩
              go_wp2_with fail
              (with_reducible refine (take21 g nm cs nw (el bs k).id A1 n1 c1 (el bs k).rows _ hbZ hrZ (by omega) nw1 i0 i1).mono ?_)
              rintro e Y3 ⟨rfl, hb3, hY3⟩
              have P3 := P2.trans (hY3 _ hgw1 (Nat.le_trans zU P2.size))
              have y3 : Y3.cell? ⟨gl, o + k * 2, none⟩ = some (.int .i64 (el bs k).id) := pw_cell_below (PW.trans (P3.mono (Nat.le_succ _))) y0w
              have hid : Hid (chk cs (el bs k).rows (el bs k).id nw = 0 → 0 ≤ (el bs k).id) := by
                show _ → _
                intro hh
                unfold chk at hh
                split at hh
                · cases hh
                · split at hh
                  · cases hh
                  · omega
              generalize chk cs (el bs k).rows (el bs k).id nw = q at *
              clear y1 zY y2 z2 y0w
              by_cases hz : q = 0
              · subst hz
                have hid := hid.out rfl
                rw [if_pos rfl] at hb3
                go_wp2_with fail
                (with_reducible refine (mark20 g nm cs _ _ hb3).mono ?_)
                rintro e Z ⟨rfl, rfl⟩
                go_wp2
                go_roundg (m - (k + 1))
                case measure => omega
                case rel => exact ⟨k + 1, _, by go_num, rfl, by omega, by omega, by omega, by omega, hb3, P3⟩
              · rw [if_neg hz] at hb3
                have hz2 : (q == 0) = false := by simpa using hz
                go_wp2_with fail
                (with_reducible refine (mark20 g nm cs _ _ hb3).mono ?_)
                rintro e Z ⟨rfl, rfl⟩
                go_wp2
                go_roundg (m - (k + 1))
                case measure => omega
                case rel => exact ⟨k + 1, _, by go_num, rfl, by omega, by omega, by omega, by omega, hb3, P3⟩
          · obtain rfl : k = m := by omega
            go_wp2
            go_ret
            exact ⟨rfl, Pw⟩
end Go.Proofs.Ytegkclehijdbiaa.VE
