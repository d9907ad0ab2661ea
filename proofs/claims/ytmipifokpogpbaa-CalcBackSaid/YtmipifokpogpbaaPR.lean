import Derived.Test.YtmipifokpogpbaaRP
set_option linter.unusedSimpArgs false
set_option linter.unusedVariables false
namespace Go.Proofs.Ytmipifokpogpbaa.PR
open Go.RowKit Go.Proofs.YtmipifokpogpbaaW.PrintWords Go.Proofs.YtmipifokpogpbaaW.PrintLast Go.Proofs.Ytmipifokpogpbaa.C1 Go.Proofs.Ytmipifokpogpbaa.C2 Go.Proofs.Ytmipifokpogpbaa.TP

/-- The digits, the lowest first. -/
def digs (u : Nat) : List Int := if h : u = 0 then [] else ((u % 10 : Nat) : Int) :: digs (u / 10)
termination_by u
theorem digs_zero : digs 0 = [] := by rw [digs]; simp
theorem digs_pos {u : Nat} (h : 0 < u) : digs u = ((u % 10 : Nat) : Int) :: digs (u / 10) := by rw [digs, dif_neg (by omega)]
theorem digs_dg : ∀ u, M.Dg (digs u) := by
  intro u
  induction u using Nat.strongRecOn with
  | _ u ih =>
    rcases Nat.eq_zero_or_pos u with rfl | h
    · rw [digs_zero]; exact M.Dg.nil
    · rw [digs_pos h]
      intro x hx
      rcases List.mem_cons.1 hx with rfl | hx
      · omega
      · exact ih _ (by omega) x hx
theorem digs_val : ∀ u, M.val (digs u) = (u : Int) := by
  intro u
  induction u using Nat.strongRecOn with
  | _ u ih =>
    rcases Nat.eq_zero_or_pos u with rfl | h
    · rw [digs_zero]; rfl
    · rw [digs_pos h, M.val, ih _ (by omega)]; omega
theorem digs_ne {u : Nat} (h : 0 < u) : digs u ≠ [] := by rw [digs_pos h]; simp
theorem digs_can : ∀ u, M.Canon (digs u) := by
  intro u
  induction u using Nat.strongRecOn with
  | _ u ih =>
    rcases Nat.eq_zero_or_pos u with rfl | h
    · rw [digs_zero]; exact M.Canon.nil
    · rw [digs_pos h]
      intro hn
      rcases Nat.eq_zero_or_pos (u / 10) with h0 | h0
      · have e : digs (u / 10) = [] := by rw [h0]; exact digs_zero
        simp only [e, List.getLast_singleton]
        omega
      · rw [List.getLast_cons (digs_ne h0)]
        exact ih _ (by omega) (digs_ne h0)
theorem digs_len : ∀ (n u : Nat), u < 10 ^ n → (digs u).length ≤ n
  | 0, u, h => by have : u = 0 := by omega
                  subst this; rw [digs_zero]; simp
  | n + 1, u, h => by
    rcases Nat.eq_zero_or_pos u with rfl | h0
    · rw [digs_zero]; simp
    · rw [digs_pos h0, List.length_cons]
      have := digs_len n (u / 10) (by rw [Nat.pow_succ] at h; omega)
      omega
/-- The bytes of digits. -/
def byts (l : List Int) : List Int := (l.map (48 + ·)).reverse
/-- A number's text. -/
def txt (n : Int) : List Int := if n = 0 then [48] else (if n < 0 then [45] else []) ++ byts (digs n.natAbs)
theorem byts_snoc (l : List Int) (d : Int) : byts (l ++ [d]) = (48 + d) :: byts l := by simp [byts]
theorem byts_len (l : List Int) : (byts l).length = l.length := by simp [byts]

/-- The array, behind k digits. -/
def arr (k : Nat) (l : List Int) : Array Value := ((List.replicate k (0 : Int) ++ l).map (Value.int .u8)).toArray
theorem arr_set (k : Nat) (l : List Int) (x : Int) : (arr (k + 1) l).setIfInBounds k (.int .u8 x) = arr k (x :: l) := by
  unfold arr
  rw [List.setIfInBounds_toArray]
  congr 1
  rw [List.replicate_succ', List.append_assoc, List.map_append, List.map_append]
  rw [List.set_append_right _ _ (by simp)]
  simp
theorem arr_at (k : Nat) (l : List Int) : (arr (k + 1) l)[k]? = some (.int .u8 0) := by
  unfold arr
  rw [List.getElem?_toArray, List.getElem?_map, List.getElem?_append_left (by simp), List.getElem?_replicate]
  simp
theorem slice_arr (g a : Nat) (ha : a < 20) (W : World) : (Instr.sliceAt 77 (.pointer (some ⟨g, 0, none⟩)) (some (.int .i64 (a : Int))) none none).run Try.prog W = .ok (.slice (some ⟨g, a, none⟩) (20 - a) (20 - a)) W := by
  have hl : Try.prog.arrayLen 77 = 20 := by kernel_rfl
  have he : Try.prog.elem 77 = 5 := by kernel_rfl
  rw [run_sliceAt_array_l W 77 _ (by kernel_rfl) .i64 (a : Int) (by omega) (by rw [hl]; omega), hl, he]
  have hm : (Try.prog.info? 5).map (fun i => i.size) = some 1 := by kernel_rfl
  obtain ⟨i, hi, _⟩ := Option.map_eq_some_iff.1 hm
  have hc : Try.prog.cellsOf 5 = 1 := by kernel_rfl
  have hs : (sizeOf 5).run Try.prog W = .ok 1 W := (run_sizeOf W hi).trans (by rw [hc])
  rw [hs]
  simp only [Result.andThen, slicedAt, Int.toNat_natCast, Nat.mul_one, add_plain]
  rw [if_neg (by omega)]
theorem arr_reads {W : World} {g a : Nat} {l : List Int} (h : W.heap[g]? = some (.cells (arr a l) 77 (0, 0))) (hl : l.length + a = 20) : ReadsInt W .u8 (some ⟨g, a, none⟩) (20 - a) l := by
  refine ⟨by omega, by omega, fun _ => ⟨_, rfl, fun i hi => ?_⟩⟩
  have e : (⟨g, a, none⟩ : Addr).add i = ⟨g, a + i, none⟩ := by unfold Addr.add; split <;> simp_all
  rw [e, blk_cell h]
  unfold arr
  rw [List.getElem?_toArray, List.getElem?_map, List.getElem?_append_right (by simp)]
  simp [List.getD_eq_getElem?_getD, List.getElem?_eq_getElem (show i < l.length by omega)]
theorem arr_string {W : World} {g a : Nat} {l : List Int} (h : W.heap[g]? = some (.cells (arr a l) 77 (0, 0))) (hl : l.length + a = 20) : (convert 75 9 (.slice (some ⟨g, a, none⟩) (20 - a) (20 - a))).run Try.prog W = .ok (.string (strOfNums l)) W :=
  string_of_reads Try.underlying75 Try.underlying5 Try.underlying9 (arr_reads h hl)
set_option maxHeartbeats 1000000 in
theorem print (n : Int) (w : World) (h1 : -9223372036854775808 ≤ n) (h2 : n ≤ 9223372036854775807) : Calls Try.prog 33 #[.int .i64 n] w fun e w' => e = .returned (.string (strOfNums (txt n))) ∧ Below w.heap.size w w' := by
  by_cases h0 : n = 0
  · subst h0
    have e : Hid (strOfNums (txt 0) = ⟨#[48]⟩) := rfl
    go_enter Try.func33, Try.ntmps33
    go_wp2
    go_ret
    exact ⟨by rw [e.out]; rfl, Below.refl _ _⟩
  · go_enter Try.func33, Try.ntmps33
    go_wp2_with fail
    (with_reducible refine (MU.size n _ h1 h2).mono ?_)
    rintro e W1 ⟨rfl, rfl⟩
    go_wp2
    have hd := Lib.hid (digs_len 19 n.natAbs (by omega))
    have s0 : (w.alloc (.cells (arr 20 (byts [])) 77)).heap[w.heap.size]? = some (.cells (arr 20 (byts [])) 77 (0, 0)) := get_new _ _ _ rfl
    have p0 : Below w.heap.size w (w.alloc (.cells (arr 20 (byts [])) 77)) := by go_grown
    go_loopw [4, 5] (fun i u wr => ∃ (a uu : Nat) (zs : List Int), i = .int .i64 a ∧ u = .int .u64 (uu : Int) ∧ uu ≤ 9223372036854775808 ∧ zs.length + a = 20 ∧ Hid (digs n.natAbs = zs ++ digs uu) ∧ wr.heap[w.heap.size]? = some (.cells (arr a (byts zs)) 77 (0, 0)) ∧ Below w.heap.size w wr) (fun _ u _ => (intOf u).toNat)
    case atStart => exact ⟨20, n.natAbs, [], rfl, rfl, by omega, rfl, rfl, s0, p0⟩
    case round =>
      clear s0 p0
      obtain ⟨a, uu, zs, rfl, rfl, hu, ha, hz, hb, bel⟩ := hrel
      by_cases hpos : 0 < uu
      · have hl : zs.length + 1 ≤ 19 := by
          have := hd.out; rw [hz.out, digs_pos hpos] at this; simp at this; omega
        obtain ⟨a, rfl⟩ : ∃ a', a = a' + 1 := ⟨a - 1, by omega⟩
        have f0 : wr.cell? ⟨w.heap.size, a, none⟩ = some (.int .u8 0) := (blk_cell hb a).trans (arr_at _ _)
        have f1 := blk_frozen hb a
        have q0 : (0 : Int) ≤ (uu : Int) % 10 := by omega
        have q1 : (uu : Int) % 10 ≤ 9 := by omega
        have q2 : (0 : Int) < (uu : Int) := by omega
        have q3 : (uu : Int) ≤ 9223372036854775808 := by omega
        have q4 : (a : Int) < 20 := by omega
        have q5 : (0 : Int) ≤ (a : Int) := by omega
        have hF := blk_put hb a (.int .u8 (48 + (uu : Int) % 10)) (arr_set a (byts zs) _)
        have hF := Lib.hid hF
        have HB := Lib.hid hb
        clear hb
        go_wp2
        go_roundw
        case rel =>
          refine ⟨a, uu / 10, zs ++ [((uu % 10 : Nat) : Int)], rfl, by push_cast; rfl, by omega, by simp; omega, ?_, ?_, bel.setCell (Nat.le_refl _) _⟩
          · show _ = _
            rw [hz.out, digs_pos hpos, List.append_assoc]; rfl
          · rw [byts_snoc]; push_cast; exact hF.out
        case measure => simp [intOf] <;> omega
      · obtain rfl : uu = 0 := by omega
        have hz : digs n.natAbs = zs := by have := hz.out; rw [digs_zero, List.append_nil] at this; exact this
        have hl : zs.length ≤ 19 := by have := hd.out; rw [hz] at this; exact this
        by_cases hn : n < 0
        · obtain ⟨a, rfl⟩ : ∃ a', a = a' + 1 := ⟨a - 1, by omega⟩
          have f0 : wr.cell? ⟨w.heap.size, a, none⟩ = some (.int .u8 0) := (blk_cell hb a).trans (arr_at _ _)
          have f1 := blk_frozen hb a
          have q4 : (a : Int) < 20 := by omega
          have q5 : (0 : Int) ≤ (a : Int) := by omega
          have hF := Lib.hid (blk_put hb a (.int .u8 45) (arr_set a (byts zs) _))
          have ht : Hid (txt n = 45 :: byts zs) := by show _ = _; unfold txt; rw [if_neg h0, if_pos hn, hz]; rfl
          have hB2 : Below w.heap.size w (wr.setCell ⟨w.heap.size, a, none⟩ (.int .u8 45)) := bel.setCell (Nat.le_refl _) _
          have HZ := Lib.hid hz
          have HB := Lib.hid hb
          clear hb hz
          go_upto_region 13 with fail
          generalize wr.setCell ⟨w.heap.size, a, none⟩ (.int .u8 45) = W2 at *
          have hsl := slice_arr w.heap.size a (by omega) W2
          have hcv := arr_string hF.out (by rw [List.length_cons, byts_len]; omega)
          go_wp2
          go_ret
          exact ⟨by rw [ht.out]; rfl, hB2⟩
        · have ht : Hid (txt n = byts zs) := by show _ = _; unfold txt; rw [if_neg h0, if_neg hn, hz]; rfl
          have HZ := Lib.hid hz
          have hsl := slice_arr w.heap.size a (by have h := digs_ne (show 0 < n.natAbs by omega); rw [hz] at h; have := List.length_pos_iff.2 h; omega) wr
          have hcv := arr_string hb (by rw [byts_len]; exact ha)
          clear hb hz
          go_wp2
          go_ret
          exact ⟨by rw [ht.out]; rfl, bel⟩
end Go.Proofs.Ytmipifokpogpbaa.PR
