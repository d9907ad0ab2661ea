import Derived.Test.YtmipifokpogpbaaTP
import Derived.Test.YtmipifokpogpbaaBR
set_option linter.unusedSimpArgs false
set_option linter.unusedVariables false
namespace Go.Proofs.Ytmipifokpogpbaa.RP
open Go.RowKit Go.Proofs.YtmipifokpogpbaaW.PrintWords Go.Proofs.YtmipifokpogpbaaW.PrintLast Go.Proofs.Ytmipifokpogpbaa.C1 Go.Proofs.Ytmipifokpogpbaa.C2 Go.Proofs.Ytmipifokpogpbaa.TP

theorem bt_cut (s : ByteArray) (i : Nat) : bt (s.extract 1 s.size) i = bt s (i + 1 : Nat) := by
  unfold bt
  simp only [Int.toNat_natCast]
  by_cases h : i + 1 < s.size
  · rw [dif_pos (by simp; omega), dif_pos h]
    congr 2
    simp [ByteArray.getElem_extract, Nat.add_comm]
  · rw [dif_neg (by simp; omega), dif_neg h]
/-- The digits from behind. -/
def dl (s : ByteArray) : Nat → List Int
  | 0 => []
  | m + 1 => dl s m ++ [bt s ((s.size - 1 - m : Nat) : Int) - 48]
theorem dl_len (s : ByteArray) : ∀ m, (dl s m).length = m
  | 0 => rfl
  | m + 1 => by simp [dl, dl_len s m]
theorem dl_dg (s : ByteArray) : ∀ m, (∀ i : Nat, s.size - m ≤ i → i < s.size → 48 ≤ bt s i ∧ bt s i ≤ 57) → m ≤ s.size → M.Dg (dl s m)
  | 0, _, _ => M.Dg.nil
  | m + 1, h, hm => by
    have h1 := h (s.size - 1 - m) (by omega) (by omega)
    exact (dl_dg s m (fun i h2 h3 => h i (by omega) h3) (by omega)).snoc (by omega) (by omega)
/-- The rest of s behind f bytes. -/
structure Rest (s r : ByteArray) (f : Nat) (ng : Bool) : Prop where
  le : f ≤ s.size
  size : r.size = s.size - f
  at_ : ∀ i : Nat, bt r i = bt s ((f + i : Nat) : Int)
  neg : ng = true → f = 1
  pos : ng = false → f = 0
theorem hor_dl {s r : ByteArray} {f : Nat} {ng : Bool} (h : Rest s r f ng) : ∀ m, m ≤ r.size → hor r r.size = hor r (r.size - m) * 10 ^ m + M.val (dl s m)
  | 0, _ => by simp [dl, M.val]
  | m + 1, hm => by
    have ih := hor_dl h m (by omega)
    have e : r.size - m = (r.size - (m + 1)) + 1 := by omega
    rw [e] at ih
    simp only [hor] at ih
    rw [h.at_, show f + (r.size - (m + 1)) = s.size - 1 - m by have := h.size; have := h.le; omega] at ih
    rw [ih, dl, M.val_append, dl_len]
    simp only [M.val, Int.pow_succ]
    grind
theorem rest_neg {s : ByteArray} (h0 : 0 < s.size) (h : bt s 0 = 45) : negB s = true ∧ Rest s (restS s) 1 true := by
  have n1 : negB s = true := by simp [negB, h0, h]
  have n2 : restS s = s.extract 1 s.size := by simp [restS, n1]
  rw [n2]
  exact ⟨n1, by omega, by simp, fun i => (by rw [bt_cut, Nat.add_comm]), fun _ => rfl, fun h => (by cases h)⟩
theorem rest_pos {s : ByteArray} (h : ¬ (0 < s.size ∧ bt s 0 = 45)) : negB s = false ∧ Rest s (restS s) 0 false := by
  have n1 : negB s = false := by
    unfold negB
    by_cases h0 : 0 < s.size
    · have : bt s 0 ≠ 45 := fun e => h ⟨h0, e⟩
      simp [this]
    · simp [h0]
  have n2 : restS s = s := by simp [restS, n1]
  rw [n2]
  exact ⟨n1, by omega, by simp, fun i => (by simp), fun h => (by cases h), fun _ => rfl⟩
theorem okt_iff {s r : ByteArray} {f : Nat} {ng : Bool} (h : Rest s r f ng) : Okt r ng ↔ f < s.size ∧ ¬ (bt s f = 48 ∧ 1 < s.size) ∧ ∀ i : Nat, f ≤ i → i < s.size → 48 ≤ bt s i ∧ bt s i ≤ 57 := by
  have hs := h.size
  have hl := h.le
  have h0 := h.at_ 0
  simp only [Nat.add_zero] at h0
  rw [show ((0 : Nat) : Int) = 0 from rfl] at h0
  unfold Okt
  constructor
  · rintro ⟨a, b, c⟩
    refine ⟨by omega, fun ⟨x, y⟩ => b ⟨by rw [h0]; exact x, ?_⟩, fun i h1 h2 => ?_⟩
    · cases ng with
      | true => exact .inl rfl
      | false => have := h.pos rfl; right; omega
    · have := c (i - f) (by omega)
      rw [h.at_, show f + (i - f) = i by omega] at this
      exact this
  · rintro ⟨a, b, c⟩
    refine ⟨by omega, fun ⟨x, y⟩ => b ⟨by rw [← h0]; exact x, ?_⟩, fun i hi => ?_⟩
    · rcases y with y | y
      · have := h.neg y; omega
      · omega
    · rw [h.at_]; exact c _ (by omega) (by omega)
theorem num_sgn {s r : ByteArray} {f : Nat} {ng : Bool} (h : Rest s r f ng) : R2.sgn ng (M.val (dl s (s.size - f))) = numT r ng := by
  have e := hor_dl h r.size (Nat.le_refl _)
  rw [Nat.sub_self, h.size] at e
  simp only [hor, Int.zero_mul, Int.zero_add] at e
  unfold R2.sgn numT
  rw [← e, h.size]
theorem sm_ok {l : List Int} (h : M.Dg l) (hl : l.length ≤ 1000) (ng : Bool) : -10 ^ 1000000 < R2.sgn ng (M.val l) ∧ R2.sgn ng (M.val l) < 10 ^ 1000000 := by
  have h1 := M.val_lt h
  have h2 := M.pow_le hl
  have h3 := R9.ten_lt (m := 1000) (n := 1000000) (by omega)
  have h4 := M.val_nonneg h
  generalize (10 : Int) ^ 1000000 = a at *
  generalize (10 : Int) ^ 1000 = b at *
  unfold R2.sgn
  split <;> omega
theorem dl_step (s : ByteArray) (j : Nat) (hj : j < s.size) : dl s (s.size - j) = dl s (s.size - (j + 1)) ++ [bt s (j : Int) - 48] := by
  rw [show s.size - j = (s.size - (j + 1)) + 1 by omega, dl, show s.size - 1 - (s.size - (j + 1)) = j by omega]
theorem own_snoc {w : World} {base : Nat} {v : Value} {l : List Int} {d : Int} (h : w.ownsRow base 3 1 v (l.length + 1) (nums .i64 l ++ [.int .i64 d])) : w.ownsRow base 3 1 v (l ++ [d]).length (nums .i64 (l ++ [d])) := by
  have e : nums .i64 (l ++ [d]) = nums .i64 l ++ [.int .i64 d] := by simp [nums]
  rw [e, List.length_append]; exact h
theorem dig_step {s : ByteArray} {j : Nat} (h : ∀ x : Nat, j + 1 ≤ x → x < s.size → 48 ≤ bt s x ∧ bt s x ≤ 57) (h0 : 48 ≤ bt s j) (h1 : bt s j ≤ 57) : ∀ x : Nat, j ≤ x → x < s.size → 48 ≤ bt s x ∧ bt s x ≤ 57 := fun x h2 h3 => by
  by_cases e : x = j
  · subst e; exact ⟨h0, h1⟩
  · exact h x (by omega) h3
/-- The reference's memory. -/
structure PSt (s : ByteArray) (w wr : World) (m : Nat) : Prop where
  row : ∃ v, wr.heap[w.heap.size]? = some (.cells #[.bool false, v] 29 (0, 0)) ∧ wr.ownsRow (w.heap.size + 1) 3 1 v (dl s m).length (nums .i64 (dl s m))
  bel : Below w.heap.size w wr

set_option maxHeartbeats 4000000 in
theorem parse_neg (s r : ByteArray) (w : World) (hs : s.size ≤ 1000) (h0 : 0 < s.size) (h1 : bt s 0 = 45) (hR : Rest s r 1 true) : Calls Try.prog 32 #[.string s] w fun e w' => e = .returned (.tuple #[.int .i64 (psV r true), .int .i64 (psE r true)]) ∧ Below w.heap.size w w' := by
  have HR := Lib.hid hR
  have hx : ∀ h : 0 < s.size, ((s[0]'h).toNat : Int) = bt s 0 := bt_at s 0
  have h1b : (bt s 0 == 45) = true := by simpa using h1
  have hle : 1 ≤ s.size := h0
  clear hR
  go_enter Try.func32, Try.ntmps32
  go_wp2
  go_loopw [6] (fun i wr => ∃ j : Nat, i = .int .i64 ((j : Int) - 1) ∧ 1 ≤ j ∧ j ≤ s.size ∧ (∀ x : Nat, j ≤ x → x < s.size → 48 ≤ bt s x ∧ bt s x ≤ 57) ∧ PSt s w wr (s.size - j)) (fun i _ => (intOf i + 1).toNat)
  case atStart => exact ⟨s.size, by go_num, hle, Nat.le_refl _, fun x h1 h2 => by omega, ⟨⟨_, get_new _ _ _ rfl, by rw [Nat.sub_self]; exact own_nil _ _ _ _⟩, by go_grown⟩⟩
  case round =>
    obtain ⟨j, hi, hj0, hj1, hdg, ⟨v0, hBK, hown⟩, bel⟩ := hrel
    have hdg := Lib.hid hdg
    have BK := Lib.hid hBK
    have f0 : wr.cell? ⟨w.heap.size, 0, none⟩ = some (.bool false) := (blk_cell hBK 0).trans rfl
    have f1 : wr.cell? ⟨w.heap.size, 1, none⟩ = some v0 := (blk_cell hBK 1).trans rfl
    have hsz : w.heap.size + 1 ≤ wr.heap.size := blk_lt hBK
    clear hBK
    by_cases hlt : 1 < j
    · obtain ⟨j, rfl⟩ : ∃ j', j = j' + 1 := ⟨j - 1, by omega⟩
      rw [show ((j + 1 : Nat) : Int) - 1 = (j : Int) by omega] at hi
      subst hi
      have hxj : ∀ h : j < s.size, ((s[j]'h).toNat : Int) = bt s j := bt_at s j
      have q0 : (1 : Int) ≤ (j : Int) := by omega
      have q1 : (j : Int) < (s.size : Int) := by omega
      have q2 : 0 ≤ (j : Int) := by omega
      obtain ⟨x0, x1⟩ := bt_range s j
      by_cases d0 : bt s j < 48
      · have hb := Lib.hid (ps_bad (r := r) (ng := true) (fun h => by have := (((okt_iff HR.out).1 h).2.2 j (by omega) (by omega)).1; omega))
        go_wp2
        go_returns
        exact ⟨by rw [hb.out.1, hb.out.2]; rfl, bel⟩
      · by_cases d1 : 57 < bt s j
        · have hb := Lib.hid (ps_bad (r := r) (ng := true) (fun h => by have := (((okt_iff HR.out).1 h).2.2 j (by omega) (by omega)).2; omega))
          go_wp2
          go_returns
          exact ⟨by rw [hb.out.1, hb.out.2]; rfl, bel⟩
        · have hst := Lib.hid (dl_step s j (by omega))
          have hmm : s.size - (j + 1) ≤ 1000 := by omega
          generalize s.size - (j + 1) = m at *
          have e8 : IntKind.u8.wrap (bt s j - 48) = bt s j - 48 := by simp only [IntKind.wrap_u8]; omega
          have e64 : wrap64 (bt s j - 48) = bt s j - 48 := by simp only [wrap64]; omega
          go_wp2_with fail
          refine start_ (n := 11) (S := fun w' => w'.cell? ⟨w.heap.size, 0, none⟩ = some (.bool false) ∧ w'.cell? ⟨w.heap.size, 1, none⟩ = some v0) (ds := [10]) #[false, false, false, false, false, false, false, false, false, false, false] (by kernel_rfl) rfl rfl ⟨f0, f1⟩ (fun hHeld => ?_)
          have ownD := own_drew hown
          have belD : Below wr.heap.size wr wr.drew := (Below.refl _ wr).drew
          have szD : Hid (wr.drew.heap.size = wr.heap.size) := rfl
          have BKD : Hid (wr.drew.heap[w.heap.size]? = some (.cells #[.bool false, v0] 29 (0, 0))) := BK.out
          generalize wr.drew = wd at hHeld ownD belD szD BKD ⊢
          have f0D := hHeld.1
          have f1D := hHeld.2
          refine pure_ (i := 0) (N := some 36) (v := ?_) (a' := ?_) #[true, false, false, false, false, false, false, false, false, false, false] rfl rfl (by kernel_rfl) (fun _ _ _ h => h) (Or.inl ⟨by rfl, ?_⟩) ?_ ?_
          rotate_left
          · intro w'
            go_simp
            with_reducible rfl
          rotate_left
          · simp only [Act.put, List.setIfInBounds_toArray, List.set_cons_zero, List.set_cons_succ, i64_w, i32_w]
            rfl
          refine pure_ (i := 2) (N := some 38) (v := ?_) (a' := ?_) #[true, false, true, false, false, false, false, false, false, false, false] rfl rfl (by kernel_rfl) (fun _ _ _ h => h) (Or.inl ⟨by rfl, ?_⟩) ?_ ?_
          rotate_left
          · intro w'
            go_simp
            with_reducible rfl
          rotate_left
          · simp only [Act.put, List.setIfInBounds_toArray, List.set_cons_zero, List.set_cons_succ, i64_w, i32_w]
            rfl
          refine pure_ (i := 3) (N := some 39) (v := ?_) (a' := ?_) #[true, false, true, true, false, false, false, false, false, false, false] rfl rfl (by kernel_rfl) (fun _ _ _ h => h) (Or.inl ⟨by rfl, ?_⟩) ?_ ?_
          rotate_left
          · intro w'
            go_simp
            with_reducible rfl
          rotate_left
          · simp only [Act.put, List.setIfInBounds_toArray, List.set_cons_zero, List.set_cons_succ, i64_w, i32_w]
            rfl
          refine take_ (i := 1) (N := some 37) (v := ?_) (a' := ?_) #[true, true, true, true, false, false, false, false, false, false, false] rfl rfl (by kernel_rfl) (fun _ _ _ h => h) (Or.inl ⟨by rfl, ?_⟩) hHeld ?_ ?_
          rotate_left
          · rintro w' ⟨s0, s1⟩
            go_simp
            with_reducible rfl
          rotate_left
          · simp only [Act.put, List.setIfInBounds_toArray, List.set_cons_zero, List.set_cons_succ, i64_w, i32_w]
            rfl
          refine take_ (i := 4) (N := some 40) (v := ?_) (a' := ?_) #[true, true, true, true, true, false, false, false, false, false, false] rfl rfl (by kernel_rfl) (fun _ _ _ h => h) (Or.inl ⟨by rfl, ?_⟩) hHeld ?_ ?_
          rotate_left
          · rintro w' ⟨s0, s1⟩
            go_simp
            with_reducible rfl
          rotate_left
          · simp only [Act.put, List.setIfInBounds_toArray, List.set_cons_zero, List.set_cons_succ, i64_w, i32_w]
            rfl
          refine pure_ (i := 5) (N := some 41) (v := ?_) (a' := ?_) #[true, true, true, true, true, true, false, false, false, false, false] rfl rfl (by kernel_rfl) (fun _ _ _ h => h) (Or.inl ⟨by rfl, ?_⟩) ?_ ?_
          rotate_left
          · intro w'
            go_simp
            with_reducible rfl
          rotate_left
          · simp only [Act.put, List.setIfInBounds_toArray, List.set_cons_zero, List.set_cons_succ, i64_w, i32_w]
            rfl
          refine pure_ (i := 6) (N := some 42) (v := ?_) (a' := ?_) #[true, true, true, true, true, true, true, false, false, false, false] rfl rfl (by kernel_rfl) (fun _ _ _ h => h) (Or.inl ⟨by rfl, ?_⟩) ?_ ?_
          rotate_left
          · intro w'
            go_simp
            with_reducible rfl
          rotate_left
          · simp only [Act.put, List.setIfInBounds_toArray, List.set_cons_zero, List.set_cons_succ, i64_w, i32_w]
            rfl
          refine one_ (i := 7) (N := some 43) #[true, true, true, true, true, true, true, true, false, false, false] rfl rfl (by kernel_rfl) (by decide) (fun K hK => ?_)
          refine value_ (w1 := ?_) (v := ?_) (by rfl) rfl ?_ ?_
          rotate_left 2
          · go_simp
            constructor
            · rfl
            · rfl
          refine hK.out _ _ ⟨(pw_cell_below ((Below.refl _ wd).alloc (Nat.le_refl _) _) f0D), (pw_cell_below ((Below.refl _ wd).alloc (Nat.le_refl _) _) f1D)⟩ (fun hHeld => ?_)
          clear hK K
          refine norm_ (a' := ?_) ?_ ?_
          rotate_left
          · show Act.put _ (some 43) _ = _
            simp only [Act.put, List.setIfInBounds_toArray, List.set_cons_zero, List.set_cons_succ, i64_w, i32_w]
            rfl
          refine one_ (i := 8) (N := some 44) #[true, true, true, true, true, true, true, true, true, false, false] rfl rfl (by kernel_rfl) (by decide) (fun K hK => ?_)
          refine step_append_cells (w0 := wd) (w.heap.size + 1) (by rfl) (.tmp 37) (.tmp 43) 27 3 (.int .i64 0) 1 8 rfl Try.underlying27 R1.info3 rfl (by decide) (by omega) v0 (dl s m).length (nums .i64 (dl s m)) [.int .i64 (bt s (j : Int) - 48)] rfl rfl rfl (by simp [Value.oneCell']) ownD (Below.refl _ wd) (by rw [szD.out]; exact hsz) (by rw [dl_len]; omega) ?_
          intro v1 w1 hown1 hB1 hg1 hat1
          obtain ⟨Aq, cq, rfl⟩ := own_slice hown1
          have hc := (hB1.block _ (Nat.lt_succ_self _)).trans BKD.out
          have bel1 : Below w.heap.size w w1 := (bel.trans (belD.mono (Nat.le_of_lt hsz))).trans (hB1.mono (Nat.le_succ _))
          refine hK.out _ _ ⟨((blk_cell hc 0).trans rfl), ((blk_cell hc 1).trans rfl)⟩ (fun hHeld => ?_)
          clear hK K
          refine norm_ (a' := ?_) ?_ ?_
          rotate_left
          · show Act.put _ (some 44) _ = _
            simp only [Act.put, List.setIfInBounds_toArray, List.set_cons_zero, List.set_cons_succ, i64_w, i32_w]
            rfl
          refine pure_ (i := 9) (N := some 45) (v := ?_) (a' := ?_) #[true, true, true, true, true, true, true, true, true, true, false] rfl rfl (by kernel_rfl) (fun _ _ _ h => h) (Or.inl ⟨by rfl, ?_⟩) ?_ ?_
          rotate_left
          · intro w'
            go_simp
            with_reducible rfl
          rotate_left
          · simp only [Act.put, List.setIfInBounds_toArray, List.set_cons_zero, List.set_cons_succ, i64_w, i32_w]
            rfl
          refine last_ (i := 10) (N := none) #[true, true, true, true, true, true, true, true, true, true, true] rfl rfl (by kernel_rfl) (by decide) (fun K hK => ?_)
          have j0 : w1.cell? ⟨w.heap.size, 1, none⟩ = some v0 := (blk_cell hc 1).trans rfl
          have j2 := blk_frozen hc
          have HC := Lib.hid hc
          clear hc
          refine skip_ (w1 := ?_) (by rfl) rfl ?_ ?_
          rotate_left
          · go_simp
            rfl
          refine hK.out _ _ ?_
          clear hK K
          refine done_ (by kernel_rfl) ?_
          have hF : PSt s w (w1.setCell ⟨w.heap.size, 1, none⟩ (.slice Aq ((dl s m).length + 1) cq)) (s.size - j) :=
            ⟨⟨_, blk_put HC.out 1 _ rfl, by rw [hst.out]; exact ownsRow_setCell_below (own_snoc hown1) (Nat.lt_succ_self _) _⟩, bel1.setCell (Nat.le_refl _) _⟩
          clear j0 j2 f0 f1
          go_wp2
          go_roundw
          case rel => exact ⟨j, by go_num, by omega, by omega, dig_step hdg.out d0 d1, hF⟩
          case measure => simp [intOf] <;> omega
    · obtain rfl : j = 1 := by omega
      have hxf : ∀ h : 1 < s.size, ((s[1]'h).toNat : Int) = bt s 1 := bt_at s 1
      have hdl := dl_dg s (s.size - 1) (fun i h1 h2 => hdg.out i (by omega) h2) (by omega)
      have hok := Lib.hid (sm_ok hdl (by rw [dl_len]; omega) true)
      have hnum := Lib.hid (num_sgn HR.out)
      generalize dl s (s.size - 1) = zs at *
      obtain ⟨Aq, cq, rfl⟩ := own_slice hown
      have hrd := own_reads' hown
      have hle2 := own_le hown
      have hcap := R3.own_cap hown
      by_cases y0 : s.size = 1
      · have hb := Lib.hid (ps_bad (r := r) (ng := true) (fun h => by have := ((okt_iff HR.out).1 h).1; omega))
        have y1 : ((s.size : Int) == 1) = true := by rw [beq_iff_eq]; omega
        clear y0
        go_wp2
        go_returns
        exact ⟨by rw [hb.out.1, hb.out.2]; rfl, bel⟩
      · have y1 : ((s.size : Int) == 1) = false := by rw [beq_eq_false_iff_ne]; omega
        by_cases y2 : bt s 1 = 48 ∧ 1 < s.size
        · have hb := Lib.hid (ps_bad (r := r) (ng := true) (fun h => ((okt_iff HR.out).1 h).2.1 y2))
          obtain ⟨y3, y4⟩ := y2
          go_wp2
          go_returns
          exact ⟨by rw [hb.out.1, hb.out.2]; rfl, bel⟩
        · have hps := Lib.hid (ps_ok ((okt_iff HR.out).2 ⟨by omega, y2, hdg.out⟩))
          have y5 : (bt s 1 = 48 ∧ (bt s 1 == 48) = true ∧ s.size ≤ 1) ∨ (bt s 1 ≠ 48 ∧ (bt s 1 == 48) = false) := by
            by_cases y6 : bt s 1 = 48
            · left; exact ⟨y6, by simpa using y6, by omega⟩
            · right; exact ⟨y6, by simpa using y6⟩
          clear y2
          rcases y5 with ⟨y6, y7, y8⟩ | ⟨y6, y7⟩
          · exfalso; omega
          all_goals
            go_wp2_with fail
            (with_reducible refine (R2.sign true Aq _ cq _ _ hrd hle2 hcap hdl).mono ?_)
            rintro e W2 ⟨v2, rfl, n2, hB2⟩
            go_wp2_with fail
            (with_reducible refine (R6.small v2 _ _ n2 hok.out.1 hok.out.2).mono ?_)
            rintro e W3 ⟨rfl, hB3⟩
            have belF : Below w.heap.size w W3 := bel.trans ((hB2.trans (hB3.mono hB2.size)).mono bel.size)
            rw [hnum.out]
            cases hin : R6.inR (numT r true) with
            | true =>
              have e1 := Lib.hid (show smV (numT r true) = R6.smV (numT r true) from rfl)
              have e2 := Lib.hid (erV_yes (x := numT r true) hin)
              clear hin
              go_wp2
              go_returns
              exact ⟨by rw [hps.out.1, hps.out.2, e1.out, e2.out]; rfl, belF⟩
            | false =>
              have e1 := Lib.hid (smV_no (x := numT r true) hin)
              have e2 := Lib.hid (erV_no (x := numT r true) hin)
              clear hin
              go_wp2
              go_returns
              exact ⟨by rw [hps.out.1, hps.out.2, e1.out, e2.out]; rfl, belF⟩

set_option maxHeartbeats 4000000 in
theorem parse_pos (s r : ByteArray) (w : World) (hs : s.size ≤ 1000) (h1 : ¬ (0 < s.size ∧ bt s 0 = 45)) (hR : Rest s r 0 false) : Calls Try.prog 32 #[.string s] w fun e w' => e = .returned (.tuple #[.int .i64 (psV r false), .int .i64 (psE r false)]) ∧ Below w.heap.size w w' := by
  have HR := Lib.hid hR
  have hx : ∀ h : 0 < s.size, ((s[0]'h).toNat : Int) = bt s 0 := bt_at s 0
  have hle : 0 ≤ s.size := Nat.zero_le _
  clear hR
  by_cases h0 : 0 < s.size
  · have h2 : bt s 0 ≠ 45 := fun e => h1 ⟨h0, e⟩
    have h1b : (bt s 0 == 45) = false := by simpa using h2
    clear h1
    go_enter Try.func32, Try.ntmps32
    go_wp2
    go_loopw [6] (fun i wr => ∃ j : Nat, i = .int .i64 ((j : Int) - 1) ∧ 0 ≤ j ∧ j ≤ s.size ∧ (∀ x : Nat, j ≤ x → x < s.size → 48 ≤ bt s x ∧ bt s x ≤ 57) ∧ PSt s w wr (s.size - j)) (fun i _ => (intOf i + 1).toNat)
    case atStart => exact ⟨s.size, by go_num, hle, Nat.le_refl _, fun x h1 h2 => by omega, ⟨⟨_, get_new _ _ _ rfl, by rw [Nat.sub_self]; exact own_nil _ _ _ _⟩, by go_grown⟩⟩
    case round =>
      obtain ⟨j, hi, hj0, hj1, hdg, ⟨v0, hBK, hown⟩, bel⟩ := hrel
      have hdg := Lib.hid hdg
      have BK := Lib.hid hBK
      have f0 : wr.cell? ⟨w.heap.size, 0, none⟩ = some (.bool false) := (blk_cell hBK 0).trans rfl
      have f1 : wr.cell? ⟨w.heap.size, 1, none⟩ = some v0 := (blk_cell hBK 1).trans rfl
      have hsz : w.heap.size + 1 ≤ wr.heap.size := blk_lt hBK
      clear hBK
      by_cases hlt : 0 < j
      · obtain ⟨j, rfl⟩ : ∃ j', j = j' + 1 := ⟨j - 1, by omega⟩
        rw [show ((j + 1 : Nat) : Int) - 1 = (j : Int) by omega] at hi
        subst hi
        have hxj : ∀ h : j < s.size, ((s[j]'h).toNat : Int) = bt s j := bt_at s j
        have q0 : (0 : Int) ≤ (j : Int) := by omega
        have q1 : (j : Int) < (s.size : Int) := by omega
        have q2 : 0 ≤ (j : Int) := by omega
        obtain ⟨x0, x1⟩ := bt_range s j
        by_cases d0 : bt s j < 48
        · have hb := Lib.hid (ps_bad (r := r) (ng := false) (fun h => by have := (((okt_iff HR.out).1 h).2.2 j (by omega) (by omega)).1; omega))
          go_wp2
          go_returns
          exact ⟨by rw [hb.out.1, hb.out.2]; rfl, bel⟩
        · by_cases d1 : 57 < bt s j
          · have hb := Lib.hid (ps_bad (r := r) (ng := false) (fun h => by have := (((okt_iff HR.out).1 h).2.2 j (by omega) (by omega)).2; omega))
            go_wp2
            go_returns
            exact ⟨by rw [hb.out.1, hb.out.2]; rfl, bel⟩
          · have hst := Lib.hid (dl_step s j (by omega))
            have hmm : s.size - (j + 1) ≤ 1000 := by omega
            generalize s.size - (j + 1) = m at *
            have e8 : IntKind.u8.wrap (bt s j - 48) = bt s j - 48 := by simp only [IntKind.wrap_u8]; omega
            have e64 : wrap64 (bt s j - 48) = bt s j - 48 := by simp only [wrap64]; omega
            go_wp2_with fail
            refine start_ (n := 11) (S := fun w' => w'.cell? ⟨w.heap.size, 0, none⟩ = some (.bool false) ∧ w'.cell? ⟨w.heap.size, 1, none⟩ = some v0) (ds := [10]) #[false, false, false, false, false, false, false, false, false, false, false] (by kernel_rfl) rfl rfl ⟨f0, f1⟩ (fun hHeld => ?_)
            have ownD := own_drew hown
            have belD : Below wr.heap.size wr wr.drew := (Below.refl _ wr).drew
            have szD : Hid (wr.drew.heap.size = wr.heap.size) := rfl
            have BKD : Hid (wr.drew.heap[w.heap.size]? = some (.cells #[.bool false, v0] 29 (0, 0))) := BK.out
            generalize wr.drew = wd at hHeld ownD belD szD BKD ⊢
            have f0D := hHeld.1
            have f1D := hHeld.2
            refine pure_ (i := 0) (N := some 36) (v := ?_) (a' := ?_) #[true, false, false, false, false, false, false, false, false, false, false] rfl rfl (by kernel_rfl) (fun _ _ _ h => h) (Or.inl ⟨by rfl, ?_⟩) ?_ ?_
            rotate_left
            · intro w'
              go_simp
              with_reducible rfl
            rotate_left
            · simp only [Act.put, List.setIfInBounds_toArray, List.set_cons_zero, List.set_cons_succ, i64_w, i32_w]
              rfl
            refine pure_ (i := 2) (N := some 38) (v := ?_) (a' := ?_) #[true, false, true, false, false, false, false, false, false, false, false] rfl rfl (by kernel_rfl) (fun _ _ _ h => h) (Or.inl ⟨by rfl, ?_⟩) ?_ ?_
            rotate_left
            · intro w'
              go_simp
              with_reducible rfl
            rotate_left
            · simp only [Act.put, List.setIfInBounds_toArray, List.set_cons_zero, List.set_cons_succ, i64_w, i32_w]
              rfl
            refine pure_ (i := 3) (N := some 39) (v := ?_) (a' := ?_) #[true, false, true, true, false, false, false, false, false, false, false] rfl rfl (by kernel_rfl) (fun _ _ _ h => h) (Or.inl ⟨by rfl, ?_⟩) ?_ ?_
            rotate_left
            · intro w'
              go_simp
              with_reducible rfl
            rotate_left
            · simp only [Act.put, List.setIfInBounds_toArray, List.set_cons_zero, List.set_cons_succ, i64_w, i32_w]
              rfl
            refine take_ (i := 1) (N := some 37) (v := ?_) (a' := ?_) #[true, true, true, true, false, false, false, false, false, false, false] rfl rfl (by kernel_rfl) (fun _ _ _ h => h) (Or.inl ⟨by rfl, ?_⟩) hHeld ?_ ?_
            rotate_left
            · rintro w' ⟨s0, s1⟩
              go_simp
              with_reducible rfl
            rotate_left
            · simp only [Act.put, List.setIfInBounds_toArray, List.set_cons_zero, List.set_cons_succ, i64_w, i32_w]
              rfl
            refine take_ (i := 4) (N := some 40) (v := ?_) (a' := ?_) #[true, true, true, true, true, false, false, false, false, false, false] rfl rfl (by kernel_rfl) (fun _ _ _ h => h) (Or.inl ⟨by rfl, ?_⟩) hHeld ?_ ?_
            rotate_left
            · rintro w' ⟨s0, s1⟩
              go_simp
              with_reducible rfl
            rotate_left
            · simp only [Act.put, List.setIfInBounds_toArray, List.set_cons_zero, List.set_cons_succ, i64_w, i32_w]
              rfl
            refine pure_ (i := 5) (N := some 41) (v := ?_) (a' := ?_) #[true, true, true, true, true, true, false, false, false, false, false] rfl rfl (by kernel_rfl) (fun _ _ _ h => h) (Or.inl ⟨by rfl, ?_⟩) ?_ ?_
            rotate_left
            · intro w'
              go_simp
              with_reducible rfl
            rotate_left
            · simp only [Act.put, List.setIfInBounds_toArray, List.set_cons_zero, List.set_cons_succ, i64_w, i32_w]
              rfl
            refine pure_ (i := 6) (N := some 42) (v := ?_) (a' := ?_) #[true, true, true, true, true, true, true, false, false, false, false] rfl rfl (by kernel_rfl) (fun _ _ _ h => h) (Or.inl ⟨by rfl, ?_⟩) ?_ ?_
            rotate_left
            · intro w'
              go_simp
              with_reducible rfl
            rotate_left
            · simp only [Act.put, List.setIfInBounds_toArray, List.set_cons_zero, List.set_cons_succ, i64_w, i32_w]
              rfl
            refine one_ (i := 7) (N := some 43) #[true, true, true, true, true, true, true, true, false, false, false] rfl rfl (by kernel_rfl) (by decide) (fun K hK => ?_)
            refine value_ (w1 := ?_) (v := ?_) (by rfl) rfl ?_ ?_
            rotate_left 2
            · go_simp
              constructor
              · rfl
              · rfl
            refine hK.out _ _ ⟨(pw_cell_below ((Below.refl _ wd).alloc (Nat.le_refl _) _) f0D), (pw_cell_below ((Below.refl _ wd).alloc (Nat.le_refl _) _) f1D)⟩ (fun hHeld => ?_)
            clear hK K
            refine norm_ (a' := ?_) ?_ ?_
            rotate_left
            · show Act.put _ (some 43) _ = _
              simp only [Act.put, List.setIfInBounds_toArray, List.set_cons_zero, List.set_cons_succ, i64_w, i32_w]
              rfl
            refine one_ (i := 8) (N := some 44) #[true, true, true, true, true, true, true, true, true, false, false] rfl rfl (by kernel_rfl) (by decide) (fun K hK => ?_)
            refine step_append_cells (w0 := wd) (w.heap.size + 1) (by rfl) (.tmp 37) (.tmp 43) 27 3 (.int .i64 0) 1 8 rfl Try.underlying27 R1.info3 rfl (by decide) (by omega) v0 (dl s m).length (nums .i64 (dl s m)) [.int .i64 (bt s (j : Int) - 48)] rfl rfl rfl (by simp [Value.oneCell']) ownD (Below.refl _ wd) (by rw [szD.out]; exact hsz) (by rw [dl_len]; omega) ?_
            intro v1 w1 hown1 hB1 hg1 hat1
            obtain ⟨Aq, cq, rfl⟩ := own_slice hown1
            have hc := (hB1.block _ (Nat.lt_succ_self _)).trans BKD.out
            have bel1 : Below w.heap.size w w1 := (bel.trans (belD.mono (Nat.le_of_lt hsz))).trans (hB1.mono (Nat.le_succ _))
            refine hK.out _ _ ⟨((blk_cell hc 0).trans rfl), ((blk_cell hc 1).trans rfl)⟩ (fun hHeld => ?_)
            clear hK K
            refine norm_ (a' := ?_) ?_ ?_
            rotate_left
            · show Act.put _ (some 44) _ = _
              simp only [Act.put, List.setIfInBounds_toArray, List.set_cons_zero, List.set_cons_succ, i64_w, i32_w]
              rfl
            refine pure_ (i := 9) (N := some 45) (v := ?_) (a' := ?_) #[true, true, true, true, true, true, true, true, true, true, false] rfl rfl (by kernel_rfl) (fun _ _ _ h => h) (Or.inl ⟨by rfl, ?_⟩) ?_ ?_
            rotate_left
            · intro w'
              go_simp
              with_reducible rfl
            rotate_left
            · simp only [Act.put, List.setIfInBounds_toArray, List.set_cons_zero, List.set_cons_succ, i64_w, i32_w]
              rfl
            refine last_ (i := 10) (N := none) #[true, true, true, true, true, true, true, true, true, true, true] rfl rfl (by kernel_rfl) (by decide) (fun K hK => ?_)
            have j0 : w1.cell? ⟨w.heap.size, 1, none⟩ = some v0 := (blk_cell hc 1).trans rfl
            have j2 := blk_frozen hc
            have HC := Lib.hid hc
            clear hc
            refine skip_ (w1 := ?_) (by rfl) rfl ?_ ?_
            rotate_left
            · go_simp
              rfl
            refine hK.out _ _ ?_
            clear hK K
            refine done_ (by kernel_rfl) ?_
            have hF : PSt s w (w1.setCell ⟨w.heap.size, 1, none⟩ (.slice Aq ((dl s m).length + 1) cq)) (s.size - j) :=
              ⟨⟨_, blk_put HC.out 1 _ rfl, by rw [hst.out]; exact ownsRow_setCell_below (own_snoc hown1) (Nat.lt_succ_self _) _⟩, bel1.setCell (Nat.le_refl _) _⟩
            clear j0 j2 f0 f1
            go_wp2
            go_roundw
            case rel => exact ⟨j, by go_num, by omega, by omega, dig_step hdg.out d0 d1, hF⟩
            case measure => simp [intOf] <;> omega
      · obtain rfl : j = 0 := by omega
        have hxf : ∀ h : 0 < s.size, ((s[0]'h).toNat : Int) = bt s 0 := bt_at s 0
        have hdl := dl_dg s (s.size - 0) (fun i h1 h2 => hdg.out i (by omega) h2) (by omega)
        have hok := Lib.hid (sm_ok hdl (by rw [dl_len]; omega) false)
        have hnum := Lib.hid (num_sgn HR.out)
        generalize dl s (s.size - 0) = zs at *
        obtain ⟨Aq, cq, rfl⟩ := own_slice hown
        have hrd := own_reads' hown
        have hle2 := own_le hown
        have hcap := R3.own_cap hown
        by_cases y0 : s.size = 0
        · have hb := Lib.hid (ps_bad (r := r) (ng := false) (fun h => by have := ((okt_iff HR.out).1 h).1; omega))
          have y1 : ((s.size : Int) == 0) = true := by rw [beq_iff_eq]; omega
          clear y0
          go_wp2
          go_returns
          exact ⟨by rw [hb.out.1, hb.out.2]; rfl, bel⟩
        · have y1 : ((s.size : Int) == 0) = false := by rw [beq_eq_false_iff_ne]; omega
          by_cases y2 : bt s 0 = 48 ∧ 1 < s.size
          · have hb := Lib.hid (ps_bad (r := r) (ng := false) (fun h => ((okt_iff HR.out).1 h).2.1 y2))
            obtain ⟨y3, y4⟩ := y2
            go_wp2
            go_returns
            exact ⟨by rw [hb.out.1, hb.out.2]; rfl, bel⟩
          · have hps := Lib.hid (ps_ok ((okt_iff HR.out).2 ⟨by omega, y2, hdg.out⟩))
            have y5 : (bt s 0 = 48 ∧ (bt s 0 == 48) = true ∧ s.size ≤ 1) ∨ (bt s 0 ≠ 48 ∧ (bt s 0 == 48) = false) := by
              by_cases y6 : bt s 0 = 48
              · left; exact ⟨y6, by simpa using y6, by omega⟩
              · right; exact ⟨y6, by simpa using y6⟩
            clear y2
            rcases y5 with ⟨y6, y7, y8⟩ | ⟨y6, y7⟩
            all_goals
              go_wp2_with fail
              (with_reducible refine (R2.sign false Aq _ cq _ _ hrd hle2 hcap hdl).mono ?_)
              rintro e W2 ⟨v2, rfl, n2, hB2⟩
              go_wp2_with fail
              (with_reducible refine (R6.small v2 _ _ n2 hok.out.1 hok.out.2).mono ?_)
              rintro e W3 ⟨rfl, hB3⟩
              have belF : Below w.heap.size w W3 := bel.trans ((hB2.trans (hB3.mono hB2.size)).mono bel.size)
              rw [hnum.out]
              cases hin : R6.inR (numT r false) with
              | true =>
                have e1 := Lib.hid (show smV (numT r false) = R6.smV (numT r false) from rfl)
                have e2 := Lib.hid (erV_yes (x := numT r false) hin)
                clear hin
                go_wp2
                go_returns
                exact ⟨by rw [hps.out.1, hps.out.2, e1.out, e2.out]; rfl, belF⟩
              | false =>
                have e1 := Lib.hid (smV_no (x := numT r false) hin)
                have e2 := Lib.hid (erV_no (x := numT r false) hin)
                clear hin
                go_wp2
                go_returns
                exact ⟨by rw [hps.out.1, hps.out.2, e1.out, e2.out]; rfl, belF⟩

  · clear h1
    go_enter Try.func32, Try.ntmps32
    go_wp2
    go_loopw [6] (fun i wr => ∃ j : Nat, i = .int .i64 ((j : Int) - 1) ∧ 0 ≤ j ∧ j ≤ s.size ∧ (∀ x : Nat, j ≤ x → x < s.size → 48 ≤ bt s x ∧ bt s x ≤ 57) ∧ PSt s w wr (s.size - j)) (fun i _ => (intOf i + 1).toNat)
    case atStart => exact ⟨s.size, by go_num, hle, Nat.le_refl _, fun x h1 h2 => by omega, ⟨⟨_, get_new _ _ _ rfl, by rw [Nat.sub_self]; exact own_nil _ _ _ _⟩, by go_grown⟩⟩
    case round =>
      obtain ⟨j, hi, hj0, hj1, hdg, ⟨v0, hBK, hown⟩, bel⟩ := hrel
      have hdg := Lib.hid hdg
      have BK := Lib.hid hBK
      have f0 : wr.cell? ⟨w.heap.size, 0, none⟩ = some (.bool false) := (blk_cell hBK 0).trans rfl
      have f1 : wr.cell? ⟨w.heap.size, 1, none⟩ = some v0 := (blk_cell hBK 1).trans rfl
      have hsz : w.heap.size + 1 ≤ wr.heap.size := blk_lt hBK
      clear hBK
      by_cases hlt : 0 < j
      · obtain ⟨j, rfl⟩ : ∃ j', j = j' + 1 := ⟨j - 1, by omega⟩
        rw [show ((j + 1 : Nat) : Int) - 1 = (j : Int) by omega] at hi
        subst hi
        have hxj : ∀ h : j < s.size, ((s[j]'h).toNat : Int) = bt s j := bt_at s j
        have q0 : (0 : Int) ≤ (j : Int) := by omega
        have q1 : (j : Int) < (s.size : Int) := by omega
        have q2 : 0 ≤ (j : Int) := by omega
        obtain ⟨x0, x1⟩ := bt_range s j
        by_cases d0 : bt s j < 48
        · have hb := Lib.hid (ps_bad (r := r) (ng := false) (fun h => by have := (((okt_iff HR.out).1 h).2.2 j (by omega) (by omega)).1; omega))
          go_wp2
          go_returns
          exact ⟨by rw [hb.out.1, hb.out.2]; rfl, bel⟩
        · by_cases d1 : 57 < bt s j
          · have hb := Lib.hid (ps_bad (r := r) (ng := false) (fun h => by have := (((okt_iff HR.out).1 h).2.2 j (by omega) (by omega)).2; omega))
            go_wp2
            go_returns
            exact ⟨by rw [hb.out.1, hb.out.2]; rfl, bel⟩
          · have hst := Lib.hid (dl_step s j (by omega))
            have hmm : s.size - (j + 1) ≤ 1000 := by omega
            generalize s.size - (j + 1) = m at *
            have e8 : IntKind.u8.wrap (bt s j - 48) = bt s j - 48 := by simp only [IntKind.wrap_u8]; omega
            have e64 : wrap64 (bt s j - 48) = bt s j - 48 := by simp only [wrap64]; omega
            go_wp2_with fail
            refine start_ (n := 11) (S := fun w' => w'.cell? ⟨w.heap.size, 0, none⟩ = some (.bool false) ∧ w'.cell? ⟨w.heap.size, 1, none⟩ = some v0) (ds := [10]) #[false, false, false, false, false, false, false, false, false, false, false] (by kernel_rfl) rfl rfl ⟨f0, f1⟩ (fun hHeld => ?_)
            have ownD := own_drew hown
            have belD : Below wr.heap.size wr wr.drew := (Below.refl _ wr).drew
            have szD : Hid (wr.drew.heap.size = wr.heap.size) := rfl
            have BKD : Hid (wr.drew.heap[w.heap.size]? = some (.cells #[.bool false, v0] 29 (0, 0))) := BK.out
            generalize wr.drew = wd at hHeld ownD belD szD BKD ⊢
            have f0D := hHeld.1
            have f1D := hHeld.2
            refine pure_ (i := 0) (N := some 36) (v := ?_) (a' := ?_) #[true, false, false, false, false, false, false, false, false, false, false] rfl rfl (by kernel_rfl) (fun _ _ _ h => h) (Or.inl ⟨by rfl, ?_⟩) ?_ ?_
            rotate_left
            · intro w'
              go_simp
              with_reducible rfl
            rotate_left
            · simp only [Act.put, List.setIfInBounds_toArray, List.set_cons_zero, List.set_cons_succ, i64_w, i32_w]
              rfl
            refine pure_ (i := 2) (N := some 38) (v := ?_) (a' := ?_) #[true, false, true, false, false, false, false, false, false, false, false] rfl rfl (by kernel_rfl) (fun _ _ _ h => h) (Or.inl ⟨by rfl, ?_⟩) ?_ ?_
            rotate_left
            · intro w'
              go_simp
              with_reducible rfl
            rotate_left
            · simp only [Act.put, List.setIfInBounds_toArray, List.set_cons_zero, List.set_cons_succ, i64_w, i32_w]
              rfl
            refine pure_ (i := 3) (N := some 39) (v := ?_) (a' := ?_) #[true, false, true, true, false, false, false, false, false, false, false] rfl rfl (by kernel_rfl) (fun _ _ _ h => h) (Or.inl ⟨by rfl, ?_⟩) ?_ ?_
            rotate_left
            · intro w'
              go_simp
              with_reducible rfl
            rotate_left
            · simp only [Act.put, List.setIfInBounds_toArray, List.set_cons_zero, List.set_cons_succ, i64_w, i32_w]
              rfl
            refine take_ (i := 1) (N := some 37) (v := ?_) (a' := ?_) #[true, true, true, true, false, false, false, false, false, false, false] rfl rfl (by kernel_rfl) (fun _ _ _ h => h) (Or.inl ⟨by rfl, ?_⟩) hHeld ?_ ?_
            rotate_left
            · rintro w' ⟨s0, s1⟩
              go_simp
              with_reducible rfl
            rotate_left
            · simp only [Act.put, List.setIfInBounds_toArray, List.set_cons_zero, List.set_cons_succ, i64_w, i32_w]
              rfl
            refine take_ (i := 4) (N := some 40) (v := ?_) (a' := ?_) #[true, true, true, true, true, false, false, false, false, false, false] rfl rfl (by kernel_rfl) (fun _ _ _ h => h) (Or.inl ⟨by rfl, ?_⟩) hHeld ?_ ?_
            rotate_left
            · rintro w' ⟨s0, s1⟩
              go_simp
              with_reducible rfl
            rotate_left
            · simp only [Act.put, List.setIfInBounds_toArray, List.set_cons_zero, List.set_cons_succ, i64_w, i32_w]
              rfl
            refine pure_ (i := 5) (N := some 41) (v := ?_) (a' := ?_) #[true, true, true, true, true, true, false, false, false, false, false] rfl rfl (by kernel_rfl) (fun _ _ _ h => h) (Or.inl ⟨by rfl, ?_⟩) ?_ ?_
            rotate_left
            · intro w'
              go_simp
              with_reducible rfl
            rotate_left
            · simp only [Act.put, List.setIfInBounds_toArray, List.set_cons_zero, List.set_cons_succ, i64_w, i32_w]
              rfl
            refine pure_ (i := 6) (N := some 42) (v := ?_) (a' := ?_) #[true, true, true, true, true, true, true, false, false, false, false] rfl rfl (by kernel_rfl) (fun _ _ _ h => h) (Or.inl ⟨by rfl, ?_⟩) ?_ ?_
            rotate_left
            · intro w'
              go_simp
              with_reducible rfl
            rotate_left
            · simp only [Act.put, List.setIfInBounds_toArray, List.set_cons_zero, List.set_cons_succ, i64_w, i32_w]
              rfl
            refine one_ (i := 7) (N := some 43) #[true, true, true, true, true, true, true, true, false, false, false] rfl rfl (by kernel_rfl) (by decide) (fun K hK => ?_)
            refine value_ (w1 := ?_) (v := ?_) (by rfl) rfl ?_ ?_
            rotate_left 2
            · go_simp
              constructor
              · rfl
              · rfl
            refine hK.out _ _ ⟨(pw_cell_below ((Below.refl _ wd).alloc (Nat.le_refl _) _) f0D), (pw_cell_below ((Below.refl _ wd).alloc (Nat.le_refl _) _) f1D)⟩ (fun hHeld => ?_)
            clear hK K
            refine norm_ (a' := ?_) ?_ ?_
            rotate_left
            · show Act.put _ (some 43) _ = _
              simp only [Act.put, List.setIfInBounds_toArray, List.set_cons_zero, List.set_cons_succ, i64_w, i32_w]
              rfl
            refine one_ (i := 8) (N := some 44) #[true, true, true, true, true, true, true, true, true, false, false] rfl rfl (by kernel_rfl) (by decide) (fun K hK => ?_)
            refine step_append_cells (w0 := wd) (w.heap.size + 1) (by rfl) (.tmp 37) (.tmp 43) 27 3 (.int .i64 0) 1 8 rfl Try.underlying27 R1.info3 rfl (by decide) (by omega) v0 (dl s m).length (nums .i64 (dl s m)) [.int .i64 (bt s (j : Int) - 48)] rfl rfl rfl (by simp [Value.oneCell']) ownD (Below.refl _ wd) (by rw [szD.out]; exact hsz) (by rw [dl_len]; omega) ?_
            intro v1 w1 hown1 hB1 hg1 hat1
            obtain ⟨Aq, cq, rfl⟩ := own_slice hown1
            have hc := (hB1.block _ (Nat.lt_succ_self _)).trans BKD.out
            have bel1 : Below w.heap.size w w1 := (bel.trans (belD.mono (Nat.le_of_lt hsz))).trans (hB1.mono (Nat.le_succ _))
            refine hK.out _ _ ⟨((blk_cell hc 0).trans rfl), ((blk_cell hc 1).trans rfl)⟩ (fun hHeld => ?_)
            clear hK K
            refine norm_ (a' := ?_) ?_ ?_
            rotate_left
            · show Act.put _ (some 44) _ = _
              simp only [Act.put, List.setIfInBounds_toArray, List.set_cons_zero, List.set_cons_succ, i64_w, i32_w]
              rfl
            refine pure_ (i := 9) (N := some 45) (v := ?_) (a' := ?_) #[true, true, true, true, true, true, true, true, true, true, false] rfl rfl (by kernel_rfl) (fun _ _ _ h => h) (Or.inl ⟨by rfl, ?_⟩) ?_ ?_
            rotate_left
            · intro w'
              go_simp
              with_reducible rfl
            rotate_left
            · simp only [Act.put, List.setIfInBounds_toArray, List.set_cons_zero, List.set_cons_succ, i64_w, i32_w]
              rfl
            refine last_ (i := 10) (N := none) #[true, true, true, true, true, true, true, true, true, true, true] rfl rfl (by kernel_rfl) (by decide) (fun K hK => ?_)
            have j0 : w1.cell? ⟨w.heap.size, 1, none⟩ = some v0 := (blk_cell hc 1).trans rfl
            have j2 := blk_frozen hc
            have HC := Lib.hid hc
            clear hc
            refine skip_ (w1 := ?_) (by rfl) rfl ?_ ?_
            rotate_left
            · go_simp
              rfl
            refine hK.out _ _ ?_
            clear hK K
            refine done_ (by kernel_rfl) ?_
            have hF : PSt s w (w1.setCell ⟨w.heap.size, 1, none⟩ (.slice Aq ((dl s m).length + 1) cq)) (s.size - j) :=
              ⟨⟨_, blk_put HC.out 1 _ rfl, by rw [hst.out]; exact ownsRow_setCell_below (own_snoc hown1) (Nat.lt_succ_self _) _⟩, bel1.setCell (Nat.le_refl _) _⟩
            clear j0 j2 f0 f1
            go_wp2
            go_roundw
            case rel => exact ⟨j, by go_num, by omega, by omega, dig_step hdg.out d0 d1, hF⟩
            case measure => simp [intOf] <;> omega
      · obtain rfl : j = 0 := by omega
        have hxf : ∀ h : 0 < s.size, ((s[0]'h).toNat : Int) = bt s 0 := bt_at s 0
        have hdl := dl_dg s (s.size - 0) (fun i h1 h2 => hdg.out i (by omega) h2) (by omega)
        have hok := Lib.hid (sm_ok hdl (by rw [dl_len]; omega) false)
        have hnum := Lib.hid (num_sgn HR.out)
        generalize dl s (s.size - 0) = zs at *
        obtain ⟨Aq, cq, rfl⟩ := own_slice hown
        have hrd := own_reads' hown
        have hle2 := own_le hown
        have hcap := R3.own_cap hown
        by_cases y0 : s.size = 0
        · have hb := Lib.hid (ps_bad (r := r) (ng := false) (fun h => by have := ((okt_iff HR.out).1 h).1; omega))
          have y1 : ((s.size : Int) == 0) = true := by rw [beq_iff_eq]; omega
          clear y0
          go_wp2
          go_returns
          exact ⟨by rw [hb.out.1, hb.out.2]; rfl, bel⟩
        · exfalso; omega

theorem parse (s : ByteArray) (w : World) (hs : s.size ≤ 1000) : Calls Try.prog 32 #[.string s] w fun e w' => e = .returned (.tuple #[.int .i64 (psV (restS s) (negB s)), .int .i64 (psE (restS s) (negB s))]) ∧ Below w.heap.size w w' := by
  by_cases h : 0 < s.size ∧ bt s 0 = 45
  · obtain ⟨n1, hR⟩ := rest_neg h.1 h.2
    rw [n1]
    exact parse_neg s _ w hs h.1 h.2 hR
  · obtain ⟨n1, hR⟩ := rest_pos h
    rw [n1]
    exact parse_pos s _ w hs h hR
end Go.Proofs.Ytmipifokpogpbaa.RP
