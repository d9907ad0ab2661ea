import Derived.Test.YtmipifokpogpbaaPR
set_option linter.unusedSimpArgs false
set_option linter.unusedVariables false
namespace Go.Proofs.Ytmipifokpogpbaa.PQ
open Go.RowKit Go.Proofs.YtmipifokpogpbaaW.PrintWords Go.Proofs.YtmipifokpogpbaaW.PrintLast Go.Proofs.Ytmipifokpogpbaa.C1 Go.Proofs.Ytmipifokpogpbaa.C2 Go.Proofs.Ytmipifokpogpbaa.TP Go.Proofs.Ytmipifokpogpbaa.PR

theorem nm_digs {neg : Bool} {ds : List Int} {n : Int} (h : M.Nm neg ds n) : ds = digs n.natAbs := by
  refine M.uniq h.dg (digs_dg _) h.can (digs_can _) ?_
  rw [digs_val, h.abs]
  split <;> omega
theorem str_add (a b : List Int) : strOfNums a ++ strOfNums b = strOfNums (a ++ b) := by
  unfold strOfNums
  apply ByteArray.ext
  simp [ByteArray.data_append]
theorem byts_take {ds : List Int} {k : Nat} (hk : k < ds.length) : byts (ds.take (k + 1)) = (48 + rd ds k) :: byts (ds.take k) := by
  rw [List.take_succ_eq_append_getElem hk, byts_snoc, rd_getD, List.getD_eq_getElem?_getD, List.getElem?_eq_getElem hk]; rfl
theorem one_string (W : World) (d : Int) : (convert 75 9 (.slice (some ⟨W.heap.size, 0, none⟩) 1 1)).run Try.prog (W.alloc (.cells #[.int .u8 d] 5)) = .ok (.string (strOfNums [d])) (W.alloc (.cells #[.int .u8 d] 5)) := by
  refine string_of_reads Try.underlying75 Try.underlying5 Try.underlying9 ⟨rfl, by omega, fun _ => ⟨_, rfl, fun i hi => ?_⟩⟩
  obtain rfl : i = 0 := by omega
  rw [add_plain]
  exact (blk_cell (get_new W (.cells #[.int .u8 d] 5) W.heap.size rfl) 0).trans rfl

set_option maxHeartbeats 1000000 in
theorem print (n : Int) (w : World) (h1 : -9223372036854775808 ≤ n) (h2 : n ≤ 9223372036854775807) : Calls Try.prog 34 #[.int .i64 n] w fun e w' => e = .returned (.string (strOfNums (txt n))) ∧ Below w.heap.size w w' := by
  go_enter Try.func34, Try.ntmps34
  go_wp2_with fail
  (with_reducible refine (R5.of_ n _ h1 h2).mono ?_)
  rintro e W1 ⟨_, rfl, ⟨neg, A, c, ds, rfl, hr, l1, l2, hx⟩, hB⟩
  have hds := Lib.hid (nm_digs hx)
  have hem := Lib.hid hx.empty
  have hng := Lib.hid hx.neg
  have hdg := Lib.hid hx.dg
  have hl19 : ds.length ≤ 19 := by rw [hds.out]; exact digs_len 19 _ (by omega)
  have hlm : ds.length ≤ 9223372036854775807 := Nat.le_trans l1 l2
  have E : Hid ((W1.alloc (.cells #[.bool neg, .slice A ds.length c] 29)).heap[W1.heap.size]? = some (.cells #[.bool neg, .slice A ds.length c] 29 (0, 0))) := get_new _ _ _ rfl
  have P : Below w.heap.size w (W1.alloc (.cells #[.bool neg, .slice A ds.length c] 29)) := hB.alloc hB.size _
  have hr := hr.below (show Below W1.heap.size W1 (W1.alloc (.cells #[.bool neg, .slice A ds.length c] 29)) from by go_grown)
  clear hx hB
  go_upto_region 2 with fail
  generalize W1.alloc (.cells #[.bool neg, .slice A ds.length c] 29) = W2 at *
  generalize W1.heap.size = g at *
  have f0 : W2.cell? ⟨g, 0, none⟩ = some (.bool neg) := (blk_cell E.out 0).trans rfl
  have f1 : W2.cell? ⟨g, 1, none⟩ = some (.slice A ds.length c) := (blk_cell E.out 1).trans rfl
  by_cases h0 : ds.length = 0
  · have hn : n = 0 := hem.out.1 (List.eq_nil_of_length_eq_zero h0)
    subst hn
    have e : Hid (strOfNums (txt 0) = ⟨#[48]⟩) := rfl
    go_wp2
    go_ret
    exact ⟨by rw [e.out]; rfl, P⟩
  · have hn : Hid (n ≠ 0) := fun hn => h0 (by rw [hem.out.2 hn]; rfl)
    go_wp2
    go_loopw [5, 4] (fun i u wr => ∃ k : Nat, i = .int .i64 k ∧ k ≤ ds.length ∧ u = .string (strOfNums (byts (ds.take k))) ∧ Below W2.heap.size W2 wr) (fun i _ _ => ds.length - (intOf i).toNat)
    case atStart => exact ⟨0, rfl, by omega, rfl, Below.refl _ _⟩
    case round =>
      obtain ⟨k, rfl, hk, rfl, bel⟩ := hrel
      have g0 := pw_cell_below bel f0
      have g1 := pw_cell_below bel f1
      by_cases hlt : k < ds.length
      · obtain ⟨ad, rfl, hcx⟩ := (hr.below bel).at_ k (by omega) (by omega)
        rw [Int.toNat_natCast] at hcx
        have q0 : (0 : Int) ≤ (k : Int) := by omega
        have q1 : (k : Int) < (ds.length : Int) := by omega
        obtain ⟨d0, d1⟩ := hdg.out.get k
        rw [← rd_getD] at d0 d1
        have hcv := one_string wr (48 + rd ds k)
        have hbt := Lib.hid ((str_add [48 + rd ds k] (byts (ds.take k))).trans (by rw [byts_take hlt]; rfl) : strOfNums [48 + rd ds k] ++ strOfNums (byts (ds.take k)) = strOfNums (byts (ds.take (k + 1))))
        have z1 : (strOfNums [48 + rd ds k]).size = 1 := strOfNums_size _
        have z2 : (strOfNums (byts (ds.take k))).size ≤ 19 := by rw [strOfNums_size, byts_len, List.length_take]; omega
        have z3 : (strOfNums [48 + rd ds k]).size + (strOfNums (byts (ds.take k))).size ≤ 9223372036854775807 := by omega
        go_wp2
        go_roundw
        case rel => exact ⟨k + 1, by go_num, by omega, by rw [hbt.out], bel.alloc bel.size _⟩
        case measure => simp [intOf] <;> omega
      · obtain rfl : k = ds.length := by omega
        have PB : Below w.heap.size w wr := P.trans (bel.mono P.size)
        have z2 : (strOfNums (byts ds)).size ≤ 19 := by rw [strOfNums_size, byts_len]; exact hl19
        rw [List.take_length]
        cases neg with
        | true =>
          have hn2 : n < 0 := by simpa using hng.out.symm
          have ht : Hid (⟨#[45]⟩ ++ strOfNums (byts ds) = strOfNums (txt n)) := by
            show _ = _
            unfold txt
            rw [if_neg hn.out, if_pos hn2, ← hds.out, ← str_add]; rfl
          have z3 : (ByteArray.mk #[45]).size + (strOfNums (byts ds)).size ≤ 9223372036854775807 := by show 1 + _ ≤ _; omega
          clear hn2
          go_wp2
          go_ret
          exact ⟨by rw [← ht.out]; rfl, PB⟩
        | false =>
          have hn2 : ¬ n < 0 := by simpa using hng.out.symm
          have ht : Hid (strOfNums (byts ds) = strOfNums (txt n)) := by
            show _ = _
            unfold txt
            rw [if_neg hn.out, if_neg hn2, ← hds.out]; rfl
          clear hn2
          go_wp2
          go_ret
          exact ⟨by rw [← ht.out]; rfl, PB⟩
end Go.Proofs.Ytmipifokpogpbaa.PQ
