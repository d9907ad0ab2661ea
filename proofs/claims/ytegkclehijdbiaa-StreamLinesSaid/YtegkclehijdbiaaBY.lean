import Derived.Test.YtegkclehijdbiaaW6
set_option linter.unusedSimpArgs false
set_option linter.unusedVariables false
namespace Go.Proofs.Ytegkclehijdbiaa.BY
open Go.RowKit Go.Proofs.YtegkclehijdbiaaW.PrintWords Go.Proofs.Ytegkclehijdbiaa.V1 Go.Proofs.Ytegkclehijdbiaa.V2 Go.Proofs.Ytegkclehijdbiaa.V3 Go.Proofs.Ytegkclehijdbiaa.VD Go.Proofs.Ytegkclehijdbiaa.N1 Go.Proofs.Ytegkclehijdbiaa.N2 Go.Proofs.Ytegkclehijdbiaa.N3 Go.Proofs.Ytegkclehijdbiaa.CA Go.Proofs.Ytegkclehijdbiaa.CB Go.Proofs.Ytegkclehijdbiaa.CC Go.Proofs.Ytegkclehijdbiaa.CD Go.Proofs.Ytegkclehijdbiaa.W1 Go.Proofs.Ytegkclehijdbiaa.W2 Go.Proofs.Ytegkclehijdbiaa.W3 Go.Proofs.Ytegkclehijdbiaa.W4 Go.Proofs.Ytegkclehijdbiaa.W5 Go.Proofs.Ytegkclehijdbiaa.W6
open Go.Proofs.YtegkclehijdbiaaW.PrintLast hiding takeB

/-- Batches as bytes. -/
def encB (b : Bt) : List UInt8 := encS b.id ++ encRows b.rows
def encBs (l : List Bt) : List UInt8 := num l.length ++ l.flatMap encB
/-- How much batches may weigh. -/
def wtB (bs : List Bt) : Nat := (bs.map fun b => 18 + wtR b.rows).sum
def FitB (b : Bt) : Prop := (∀ r ∈ b.rows, (∀ x ∈ r, x.Fit) ∧ r.length ≤ 9223372036854775807) ∧ b.rows.length ≤ 9223372036854775807 ∧ -9223372036854775808 ≤ b.id ∧ b.id ≤ 9223372036854775807
theorem encB_len (b : Bt) (h : FitB b) : (encB b).length ≤ 18 + wtR b.rows := by
  have h1 := encS_len h.2.2.1 h.2.2.2
  have h2 := num_len b.rows.length (by have := h.2.1; omega)
  have h3 := wtR_le b.rows h.1
  rw [encB, List.length_append, encRows, List.length_append]; omega
theorem wtB_le : ∀ (bs : List Bt), (∀ b ∈ bs, FitB b) → (bs.flatMap encB).length ≤ wtB bs
  | [], _ => by simp [wtB]
  | b :: bs, h => by
    have h1 := encB_len b (h b (by simp))
    have h2 := wtB_le bs (fun y hy => h y (by simp [hy]))
    simp only [wtB, List.flatMap_cons, List.length_append, List.map_cons, List.sum_cons] at h2 ⊢
    omega
theorem wtB_take (bs : List Bt) (k : Nat) (h : k < bs.length) : wtB (bs.take k) + 18 + wtR (el bs k).rows ≤ wtB bs := by
  have e : bs = bs.take k ++ el bs k :: bs.drop (k + 1) := by
    have : el bs k = bs[k] := by simp [el, List.getD, h]
    rw [this, List.getElem_cons_drop, List.take_append_drop]
  conv => rhs; rw [e]
  simp only [wtB, List.map_append, List.sum_append, List.map_cons, List.sum_cons]
  omega
theorem bats_mem {w : World} {A : Option Addr} {n : Nat} {bs : List Bt} (h : RdB w A n bs) : ∀ b ∈ bs, FitB b :=
  rd_mem h FitB (fun _ _ _ h => by
    obtain ⟨A1, n1, c1, _, _, hr, h1, h2, h3, h4⟩ := h
    exact ⟨rows_mem hr, by rw [hr.1]; exact hr.2.1, h3, h4⟩)
/-- One number laid, behind a draw. -/
theorem size34D (base g : Nat) (v : Value) (l : List UInt8) (m : Int) (w : World) (h : Wr w base g v l) (h0 : -9223372036854775808 ≤ m) (h1 : m ≤ 9223372036854775807) (hl : l.length ≤ 9000000) :
    Calls Try.prog 34 #[.pointer (some ⟨g, 0, none⟩), .slice (some ⟨w.heap.size, 0, none⟩) 1 1] (w.alloc (.cells #[.int .i64 m] 3)).drew (WrS (w.alloc (.cells #[.int .i64 m] 3)).drew base g v (.pointer (some ⟨g, 0, none⟩)) (l ++ encS m)) := by
  have P : Below w.heap.size w (w.alloc (.cells #[.int .i64 m] 3)).drew := (below_alloc (Below.refl _ _) _).drew
  have hr : RdN (w.alloc (.cells #[.int .i64 m] 3)).drew (some ⟨w.heap.size, 0, none⟩) 1 [m] := rdN_below (one_n h0 h1 3) ((Below.refl _ _).drew)
  have := size34 base g v l (some ⟨w.heap.size, 0, none⟩) 1 1 [m] _ (h.below P) hr (fun _ ad e => by cases e; exact Out.new (blk_lt h.1) (own_lt h.2.1) (Nat.le_refl _) (by show w.heap.size < (w.alloc (.cells #[.int .i64 m] 3)).heap.size; rw [alloc_sz]; exact Nat.lt_succ_self _)) (by omega) hl
  rwa [show [m].flatMap encS = encS m by simp] at this
set_option maxRecDepth 8000 in
set_option maxHeartbeats 2000000 in
theorem bytes61 (A : Option Addr) (n c : Nat) (bs : List Bt) (w : World) (hr : RdB w A n bs) (hl : wtB bs ≤ 6000000) :
    Calls Try.prog 61 #[.slice A n c] w fun e w' => e = .returned (.string ⟨(encBs bs).toArray⟩) ∧ Below w.heap.size w w' := by
  have hnb : n ≤ 9223372036854775807 := hr.2.1
  have hlen := Lib.hid hr.1
  have hmem := Lib.hid (bats_mem hr)
  have hE : Hid (encBs bs = num n ++ bs.flatMap encB) := by show _ = _; rw [encBs, hr.1]
  have hns : Hid (bs.take n = bs) := List.take_of_length_le (by rw [hr.1]; exact Nat.le_refl _)
  replace hr := Lib.hid hr
  have PX : Below w.heap.size w (w.alloc (.cells #[.slice none 0 0] 64)) := by go_grown
  have hX : Wr (w.alloc (.cells #[.slice none 0 0] 64)) w.heap.size w.heap.size (.slice none 0 0) [] := ⟨heap_alloc_new w _, CF.own_nil _ _ _ _, Nat.le_refl _⟩
  go_enter Try.func61, Try.ntmps61
  go_upto_region 2 with fail
  generalize w.alloc (.cells #[.slice none 0 0] 64) = X at *
  have P2 : Below X.heap.size X (X.alloc (.cells #[.int .i64 (n : Int)] 3)) := by go_grown
  have hS := Lib.hid (size34 w.heap.size w.heap.size _ [] (some ⟨X.heap.size, 0, none⟩) 1 1 [(n : Int)] _ (hX.below P2) (one_n (by omega) (by omega) 3) (out_n hX _) (by omega) (by simp))
  go_wp2_with fail
  (with_reducible refine hS.out.mono ?_)
  rintro e V2 ⟨v2, rfl, hw2, hk2⟩
  have hK := (KW.below (g := w.heap.size) (o := (Value.slice none 0 0).ownBlock) P2).trans hk2
  have hB2 : Below w.heap.size w V2 := PX.trans (hK.to_below (Nat.le_refl _) (fun k e => by simp [Value.ownBlock] at e) PX.size)
  have hl1 : Hid (([] ++ [(n : Int)].flatMap encS) = num n) := by show _ = _; simp [encS]
  rw [hl1.out] at hw2
  have h9 := num_len n (by omega)
  generalize num n = l1 at *
  have hog2 := own_ge hw2.2.1
  replace hw2 := Lib.hid hw2
  clear hS P2 hl1 hX PX hk2
  go_wp2
  go_loopg [15] n (fun kq i wr => LpW V2 w.heap.size w.heap.size v2 l1 encB bs n kq i wr)
  case atStart => exact LpW.start hw2.out
  case round =>
    obtain ⟨v', k, rfl, hk, rfl, hw, hkw⟩ := hrel
    have hBk : Below w.heap.size w wr := hB2.trans (hkw.to_below (Nat.le_refl _) (fun k e => hog2 k e) hB2.size)
    have hog3 := own_ge hw.2.1
    by_cases hlt : k < n
    · obtain ⟨b, o, rfl, ⟨A1, n1, c1, z0, z1, hrr, h1, h2, i0, i1⟩, q2⟩ := hr.out.at_ hlt
      have z0 := pw_cell_below hBk z0
      have z1 := pw_cell_below hBk z1
      have q0 : (0 : Int) ≤ (k : Int) := by omega
      have q1 : (k : Int) < (n : Int) := by omega
      have hst := Lib.hid (take_flat encB bs k (by rw [hlen.out]; exact hlt))
      have hbd : (l1 ++ (bs.take k).flatMap encB).length + 18 + wtR (el bs k).rows ≤ 6100000 := by
        have e1 := wtB_le (bs.take k) (fun x hx => hmem.out x (List.mem_of_mem_take hx))
        have e2 := wtB_take bs k (by rw [hlen.out]; exact hlt)
        rw [List.length_append]; omega
      have hdef : Hid (encB (el bs k) = encS (el bs k).id ++ encRows (el bs k).rows) := rfl
      generalize encB (el bs k) = Q at *
      generalize el bs k = x at *
      obtain ⟨id, rows⟩ := x
      dsimp only at z0 hrr i0 i1 hbd hdef
      replace hrr := Lib.hid hrr
      go_upto_region 6 with fail
      clear z0 z1
      have PY : Below wr.heap.size wr (wr.alloc (.cells #[.int .i64 id, .slice A1 n1 c1] 38)) := by go_grown
      have y0 : (wr.alloc (.cells #[.int .i64 id, .slice A1 n1 c1] 38)).heap[wr.heap.size]? = some (.cells #[.int .i64 id, .slice A1 n1 c1] 38 (0, 0)) := heap_alloc_new wr _
      have f0 : (wr.alloc (.cells #[.int .i64 id, .slice A1 n1 c1] 38)).cell? ⟨wr.heap.size, 0, none⟩ = some (.int .i64 id) := (blk_cell y0 0).trans rfl
      have f1 : (wr.alloc (.cells #[.int .i64 id, .slice A1 n1 c1] 38)).cell? ⟨wr.heap.size, 1, none⟩ = some (.slice A1 n1 c1) := (blk_cell y0 1).trans rfl
      have hO : Hid (Out (wr.alloc (.cells #[.int .i64 id, .slice A1 n1 c1] 38)) w.heap.size v'.ownBlock wr.heap.size) := Out.new (blk_lt hw.1) (own_lt hw.2.1) (Nat.le_refl _) (blk_lt y0)
      have hwY := hw.below PY
      have hkY : KW w.heap.size v'.ownBlock wr v'.ownBlock (wr.alloc (.cells #[.int .i64 id, .slice A1 n1 c1] 38)) := KW.below PY
      clear y0 PY
      generalize wr.alloc (.cells #[.int .i64 id, .slice A1 n1 c1] 38) = Y at *
      have hS := Lib.hid (size34D w.heap.size w.heap.size v' _ id Y hwY i0 i1 (by omega))
      have hbd2 : Hid ((l1 ++ (bs.take k).flatMap encB ++ encS id).length + 9 + wtR rows ≤ 7000000) := by
        have := encS_len i0 i1
        show _ ≤ _
        rw [List.length_append]; omega
      refine start_ (n := 8) (S := fun w' => w'.cell? ⟨wr.heap.size, 0, none⟩ = some (.int .i64 id) ∧ w'.cell? ⟨wr.heap.size, 1, none⟩ = some (.slice A1 n1 c1)) (ds := []) #[false, false, false, false, false, false, false, false] (by kernel_rfl) rfl rfl ⟨f0, f1⟩ (fun hHeld => ?_)
      refine pure_ (i := 0) (N := some 19) (v := ?_) (a' := ?_) #[true, false, false, false, false, false, false, false] rfl rfl (by kernel_rfl) (fun _ _ _ h => h) (Or.inl ⟨by rfl, ?_⟩) ?_ ?_
      rotate_left
      · intro w'
        go_simp
        with_reducible rfl
      rotate_left
      · simp only [Act.put, List.setIfInBounds_toArray, List.set_cons_zero, List.set_cons_succ, i64_w, i32_w]
        rfl
      refine pure_ (i := 1) (N := some 20) (v := ?_) (a' := ?_) #[true, true, false, false, false, false, false, false] rfl rfl (by kernel_rfl) (fun _ _ _ h => h) (Or.inl ⟨by rfl, ?_⟩) ?_ ?_
      rotate_left
      · intro w'
        go_simp
        with_reducible rfl
      rotate_left
      · simp only [Act.put, List.setIfInBounds_toArray, List.set_cons_zero, List.set_cons_succ, i64_w, i32_w]
        rfl
      refine pure_ (i := 5) (N := some 24) (v := ?_) (a' := ?_) #[true, true, false, false, false, true, false, false] rfl rfl (by kernel_rfl) (fun _ _ _ h => h) (Or.inl ⟨by rfl, ?_⟩) ?_ ?_
      rotate_left
      · intro w'
        go_simp
        with_reducible rfl
      rotate_left
      · simp only [Act.put, List.setIfInBounds_toArray, List.set_cons_zero, List.set_cons_succ, i64_w, i32_w]
        rfl
      refine take_ (i := 2) (N := some 21) (v := ?_) (a' := ?_) #[true, true, true, false, false, true, false, false] rfl rfl (by kernel_rfl) (fun _ _ _ h => h) (Or.inl ⟨by rfl, ?_⟩) hHeld ?_ ?_
      rotate_left
      · rintro w' ⟨s0, s1⟩
        go_simp
        with_reducible rfl
      rotate_left
      · simp only [Act.put, List.setIfInBounds_toArray, List.set_cons_zero, List.set_cons_succ, i64_w, i32_w]
        rfl
      refine take_ (i := 6) (N := some 25) (v := ?_) (a' := ?_) #[true, true, true, false, false, true, true, false] rfl rfl (by kernel_rfl) (fun _ _ _ h => h) (Or.inl ⟨by rfl, ?_⟩) hHeld ?_ ?_
      rotate_left
      · rintro w' ⟨s0, s1⟩
        go_simp
        with_reducible rfl
      rotate_left
      · simp only [Act.put, List.setIfInBounds_toArray, List.set_cons_zero, List.set_cons_succ, i64_w, i32_w]
        rfl
      refine one_ (i := 3) (N := some 22) #[true, true, true, true, false, true, true, false] rfl rfl (by kernel_rfl) (by decide) (fun K hK => ?_)
      refine value_ (w1 := ?_) (v := ?_) (by rfl) rfl ?_ ?_
      rotate_left 2
      · go_simp
        constructor
        · rfl
        · rfl
      have PA : Below Y.heap.size Y (Y.alloc (.cells #[.int .i64 id] 3)).drew := (below_alloc (Below.refl _ _) _).drew
      refine hK.out _ _ ⟨(pw_cell_below PA f0), (pw_cell_below PA f1)⟩ (fun hHeld => ?_)
      clear hK K
      refine norm_ (a' := ?_) ?_ ?_
      rotate_left
      · show Act.put _ (some 22) _ = _
        simp only [Act.put, List.setIfInBounds_toArray, List.set_cons_zero, List.set_cons_succ, i64_w, i32_w]
        rfl
      refine one_ (i := 4) (N := some 23) #[true, true, true, true, true, true, true, false] rfl rfl (by kernel_rfl) (by decide) (fun K hK => ?_)
      refine goes_ Try.func34 (by kernel_rfl) rfl #[.pointer (some ⟨w.heap.size, 0, none⟩), .slice (some ⟨Y.heap.size, 0, none⟩) 1 1] (by rfl) rfl rfl (by simp only [List.map_toArray, List.map_cons, List.map_nil]; rfl) ?_
      with_reducible refine (hS.out).mono ?_
      rintro e U1 ⟨v4, rfl, hw4, hk4⟩
      refine ⟨_, rfl, ?_⟩
      have f0 := W2.cell_heap f0 (hO.out.heap ((KW.below (g := w.heap.size) (o := v'.ownBlock) PA).trans hk4))
      have f1 := W2.cell_heap f1 (hO.out.heap ((KW.below (g := w.heap.size) (o := v'.ownBlock) PA).trans hk4))
      have hkA := hkY.trans ((KW.below (g := w.heap.size) (o := v'.ownBlock) PA).trans hk4)
      have hB4 : Below w.heap.size w U1 := hBk.trans (hkA.to_below (Nat.le_refl _) (fun k e => hog3 k e) hBk.size)
      have hQ := Lib.hid (rows39 w w.heap.size w.heap.size v4 _ A1 n1 c1 rows U1 hw4 hrr.out hB4 (Nat.le_refl _) hbd2.out)
      refine hK.out _ _ ⟨f0, f1⟩ (fun hHeld => ?_)
      clear hK K
      refine norm_ (a' := ?_) ?_ ?_
      rotate_left
      · show Act.put _ (some 23) _ = _
        simp only [Act.put, List.setIfInBounds_toArray, List.set_cons_zero, List.set_cons_succ, i64_w, i32_w]
        rfl
      refine one_ (i := 7) (N := some 26) #[true, true, true, true, true, true, true, true] rfl rfl (by kernel_rfl) (by decide) (fun K hK => ?_)
      refine goes_ Try.func39 (by kernel_rfl) rfl #[.pointer (some ⟨w.heap.size, 0, none⟩), .slice A1 n1 c1] (by rfl) rfl rfl (by simp only [List.map_toArray, List.map_cons, List.map_nil]; rfl) ?_
      with_reducible refine (hQ.out).mono ?_
      rintro e U2 ⟨v5, rfl, hw5, hk5⟩
      refine ⟨_, rfl, ?_⟩
      have hOA := hO.out.kw ((KW.below (g := w.heap.size) (o := v'.ownBlock) PA).trans hk4)
      refine hK.out _ _ ⟨(W2.cell_heap f0 (hOA.heap hk5)), (W2.cell_heap f1 (hOA.heap hk5))⟩ (fun hHeld => ?_)
      clear hK K
      refine norm_ (a' := ?_) ?_ ?_
      rotate_left
      · show Act.put _ (some 26) _ = _
        simp only [Act.put, List.setIfInBounds_toArray, List.set_cons_zero, List.set_cons_succ, i64_w, i32_w]
        rfl
      refine done_ (by kernel_rfl) ?_
      have hkB := hkA.trans hk5
      have hfin : Wr U2 w.heap.size w.heap.size v5 (l1 ++ (bs.take (k + 1)).flatMap encB) := by
        rw [hst.out, hdef.out]
        simpa using hw5
      replace hfin := Lib.hid hfin
      clear hw5 hw4
      go_wp2
      go_roundg (n - (k + 1))
      case measure => omega
      case rel => exact ⟨v5, k + 1, by congr 1, by omega, rfl, hfin.out, hkw.trans hkB⟩
    · obtain rfl : k = n := by omega
      rw [hns.out] at hw
      have hlw := wtB_le bs hmem.out
      have hStr := Lib.hid (string40 w.heap.size w.heap.size v' _ wr hw (by rw [List.length_append]; omega))
      go_wp2_with fail
      (with_reducible refine hStr.out.mono ?_)
      rintro e U ⟨rfl, rfl⟩
      go_wp2
      go_ret
      exact ⟨by rw [hE.out]; rfl, hBk⟩
end Go.Proofs.Ytegkclehijdbiaa.BY
