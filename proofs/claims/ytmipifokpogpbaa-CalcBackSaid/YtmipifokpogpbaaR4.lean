import Derived.Test.YtmipifokpogpbaaR3
import Derived.StillTailTactics
namespace Go.Proofs.Ytmipifokpogpbaa.R4
open Go.RowKit Go.Proofs.YtmipifokpogpbaaW.PrintWords Go.Proofs.Ytmipifokpogpbaa.M Go.Proofs.Ytmipifokpogpbaa.R1 Go.Proofs.Ytmipifokpogpbaa.R2 Go.Proofs.Ytmipifokpogpbaa.R3

theorem get_new (w : World) (o : Obj) (i : Nat) (h : i = w.heap.size) : (w.alloc o).heap[i]? = some o := by rw [heap_alloc, if_pos h]
theorem get_old (w : World) (o : Obj) (i : Nat) (h : i < w.heap.size) : (w.alloc o).heap[i]? = w.heap[i]? := by rw [heap_alloc, if_neg (by omega)]

/-- Times' memory: both arguments' boxes, the result's variable, the row of sums. -/
structure St (w wr : World) (na nb : Bool) (sa sb : Value) (n : Nat) (os : List Int) : Prop where
  b0 : wr.heap[w.heap.size]? = some (.cells #[.bool na, sa] 29 (0, 0))
  b1 : wr.heap[w.heap.size + 1]? = some (.cells #[.bool nb, sb] 29 (0, 0))
  b2 : wr.heap[w.heap.size + 1 + 1]? = some (.cells #[.bool false, .slice none 0 0] 29 (0, 0))
  own : wr.ownsRow (w.heap.size + 1 + 1 + 1) 3 1 (.slice (some ⟨w.heap.size + 1 + 1 + 1, 0, none⟩) n n) n (nums .i64 os)
  bel : Below w.heap.size w wr
theorem St.len {w wr : World} {na nb : Bool} {sa sb : Value} {n : Nat} {os : List Int} (h : St w wr na nb sa sb n os) : os.length = n := by have := h.own.1; simp [nums] at this; exact this
theorem St.store {w wr : World} {na nb : Bool} {sa sb : Value} {n : Nat} {os : List Int} (h : St w wr na nb sa sb n os) (i : Nat) (x : Int) : St w (wr.setCell ⟨w.heap.size + 1 + 1 + 1, i, none⟩ (.int .i64 x)) na nb sa sb n (os.set i x) := by
  obtain ⟨b0, b1, b2, own, bel⟩ := h
  have hs := own_store own (i : Int) x
  rw [Int.toNat_natCast] at hs
  exact ⟨blk_far b0 (by simp; omega) _, blk_far b1 (by simp <;> omega) _, blk_far b2 (by simp <;> omega) _, hs.1, bel.setCell (by simp; omega) _⟩
theorem St.drewN {w wr : World} {na nb : Bool} {sa sb : Value} {n : Nat} {os : List Int} (h : St w wr na nb sa sb n os) (q : Nat) : St w (wr.drewN q) na nb sa sb n os := ⟨h.b0, h.b1, h.b2, h.own, pw_below_drewN h.bel q⟩
theorem St.drew {w wr : World} {na nb : Bool} {sa sb : Value} {n : Nat} {os : List Int} (h : St w wr na nb sa sb n os) : St w wr.drew na nb sa sb n os := ⟨h.b0, h.b1, h.b2, h.own, below_drew h.bel⟩

set_option maxHeartbeats 2000000 in
theorem times_ (na nb : Bool) (A B : Option Addr) (c d : Nat) (xs ys : List Int) (x y : Int) (w : World) (hr : ReadsInt w .i64 A xs.length xs) (hs : ReadsInt w .i64 B ys.length ys)
    (h3 : Nm na xs x) (k3 : Nm nb ys y) (hn : xs.length ≤ 1000000) (hm : ys.length ≤ 1000000) :
    Calls Try.prog 17 #[.agg #[.bool na, .slice A xs.length c], .agg #[.bool nb, .slice B ys.length d]] w (NumR w (x * y)) := by
  have hmk : ∀ W : World, (Instr.makeSlice 27 (.int .i64 ((xs.length : Int) + (ys.length : Int) + 1)) (.int .i64 ((xs.length : Int) + (ys.length : Int) + 1))).run Try.prog W = .ok (.slice (some ⟨W.heap.size, 0, none⟩) (xs.length + ys.length + 1) (xs.length + ys.length + 1)) (W.alloc (.cells (madeCells #[.int .i64 0] (xs.length + ys.length + 1)) 3)) := by
    have := print_make (P := Try.prog) 27 3 .i64 8 Try.underlying27 info3 (by omega) (xs.length + ys.length + 1) (by omega)
    rwa [show (((xs.length + ys.length + 1 : Nat) : Int)) = ((xs.length : Int) + (ys.length : Int) + 1) by omega] at this
  go_enter Try.func17, Try.ntmps17
  go_wp2
  have s0 : St w ((((w.alloc (.cells #[.bool na, .slice A xs.length c] 29)).alloc (.cells #[.bool nb, .slice B ys.length d] 29)).alloc (.cells #[.bool false, .slice none 0 0] 29)).alloc (.cells (madeCells #[.int .i64 0] (xs.length + ys.length + 1)) 3)) na nb (.slice A xs.length c) (.slice B ys.length d) (xs.length + ys.length + 1) (List.replicate (xs.length + ys.length + 1) 0) := by
    refine ⟨?_, ?_, ?_, ?_, by go_grown⟩
    · repeat (first | exact get_new _ _ _ (by simp) | refine (get_old _ _ _ (by simp only [World.size_alloc]; omega)).trans ?_)
    · repeat (first | exact get_new _ _ _ (by simp) | refine (get_old _ _ _ (by simp only [World.size_alloc]; omega)).trans ?_)
    · repeat (first | exact get_new _ _ _ (by simp) | refine (get_old _ _ _ (by simp only [World.size_alloc]; omega)).trans ?_)
    · have := own_made (((w.alloc (.cells #[.bool na, .slice A xs.length c] 29)).alloc (.cells #[.bool nb, .slice B ys.length d] 29)).alloc (.cells #[.bool false, .slice none 0 0] 29)) (w.heap.size + 1 + 1 + 1) 3 .i64 (xs.length + ys.length + 1) (by simp) (by omega)
      simpa using this
  clear hmk
  go_loopw [6] (fun i wr => ∃ (k : Nat) (os : List Int), i = .int .i64 k ∧ k ≤ xs.length ∧ St w wr na nb (.slice A xs.length c) (.slice B ys.length d) (xs.length + ys.length + 1) os ∧ Row xs ys os k 0) (fun i _ => xs.length - (intOf i).toNat)
  case atStart => exact ⟨0, _, rfl, by omega, s0, Row.start _ _ _⟩
  case round =>
    clear s0
    obtain ⟨i, os, rfl, hi, hst, hrow⟩ := hrel
    have c0 : wr.cell? ⟨w.heap.size, 1, none⟩ = some (.slice A xs.length c) := (blk_cell hst.b0 1).trans rfl
    have c1 : wr.cell? ⟨w.heap.size + 1, 1, none⟩ = some (.slice B ys.length d) := (blk_cell hst.b1 1).trans rfl
    have c2 : wr.cell? ⟨w.heap.size, 0, none⟩ = some (.bool na) := (blk_cell hst.b0 0).trans rfl
    have c3 : wr.cell? ⟨w.heap.size + 1, 0, none⟩ = some (.bool nb) := (blk_cell hst.b1 0).trans rfl
    by_cases hlt : i < xs.length
    · go_wp2
      go_loopw [7] (fun j wq => ∃ (k : Nat) (os : List Int), j = .int .i64 k ∧ k ≤ ys.length ∧ St w wq na nb (.slice A xs.length c) (.slice B ys.length d) (xs.length + ys.length + 1) os ∧ Row xs ys os i k) (fun j _ => ys.length - (intOf j).toNat)
      case atStart => exact ⟨0, _, rfl, by omega, hst, hrow⟩
      case round =>
        clear hst hrow c0 c1 c2 c3
        obtain ⟨k, os, rfl, hk, hst, hrow⟩ := hrel
        have c0 : wr.cell? ⟨w.heap.size, 1, none⟩ = some (.slice A xs.length c) := (blk_cell hst.b0 1).trans rfl
        have c1 : wr.cell? ⟨w.heap.size + 1, 1, none⟩ = some (.slice B ys.length d) := (blk_cell hst.b1 1).trans rfl
        by_cases hlt2 : k < ys.length
        · obtain ⟨ad, rfl, hcx⟩ := (hr.below hst.bel).at_ i (by omega) (by omega)
          obtain ⟨bd, rfl, hcy⟩ := (hs.below hst.bel).at_ k (by omega) (by omega)
          rw [Int.toNat_natCast] at hcx hcy
          have e2 : ((i : Int) + k).toNat = i + k := by omega
          have e0 : ((i + k : Nat) : Int) = (i : Int) + k := by omega
          have hos := own_at hst.own ((i : Int) + k) (by omega) (by omega)
          obtain ⟨hco, hfo⟩ := hos
          rw [e2] at hco hfo
          have hrs := Lib.hid (hrow.step h3.dg k3.dg (by rw [hst.len]; omega))
          rw [← rd_getD, ← rd_getD, ← rd_getD, e0] at hrs
          have p9 := mul9 (h3.dg.get i) (k3.dg.get k)
          rw [← rd_getD, ← rd_getD] at p9
          have o9 := hrow.hi (i + k)
          have o0 := hrow.lo (i + k)
          rw [← rd_getD, e0] at o9 o0
          clear e0
          have q0 : (0 : Int) ≤ (i : Int) := by omega
          have q1 : (i : Int) < (xs.length : Int) := by omega
          have q2 : (0 : Int) ≤ (k : Int) := by omega
          have q3 : (k : Int) < (ys.length : Int) := by omega
          have e1 := IntWalk.i64_in ((i : Int) + k) (by omega)
          have q4 : (0 : Int) ≤ (i : Int) + k := by omega
          have q5 : (i : Int) + k < (xs.length : Int) + ys.length + 1 := by omega
          have e3 := IntWalk.i64_in (rd xs i * rd ys k) (by omega)
          have e4 := IntWalk.i64_in (rd os ((i : Int) + k) + rd xs i * rd ys k) (by omega)
          go_wp2
          go_still_tail 23, (by kernel_rfl)
          change wpList _ _ _ _ _ wr.drew
          go_wp2
          go_roundw
          case rel => exact ⟨k + 1, _, by go_num, by omega, (hst.store (i + k) _).drew, hrs.out⟩
          case measure => simp [intOf] <;> omega
        · go_wp2
          go_roundw
          case rel => exact ⟨i + 1, os, by go_num, by omega, hst, Row.next (show Row xs ys os i ys.length from (by omega : k = ys.length) ▸ hrow)⟩
          case measure => simp [intOf] <;> omega
    · obtain rfl : i = xs.length := by omega
      have hcar := hrow.car hn
      rw [hrow.v, List.take_of_length_le (Nat.le_refl _)] at hcar
      simp only [List.take_zero, val, Int.mul_zero, Int.add_zero] at hcar
      clear hrow
      go_wp2
      go_loopw [8] (fun j wq => ∃ (k : Nat) (os : List Int), j = .int .i64 k ∧ k ≤ xs.length + ys.length ∧ St w wq na nb (.slice A xs.length c) (.slice B ys.length d) (xs.length + ys.length + 1) os ∧ Car (val xs * val ys) os k) (fun j _ => xs.length + ys.length - (intOf j).toNat)
      case atStart => exact ⟨0, _, rfl, by omega, hst, hcar⟩
      case round =>
        clear hst hcar c0 c1 c2 c3 os
        obtain ⟨k, os, rfl, hk, hst, hcar⟩ := hrel
        have c2 : wr.cell? ⟨w.heap.size, 0, none⟩ = some (.bool na) := (blk_cell hst.b0 0).trans rfl
        have c3 : wr.cell? ⟨w.heap.size + 1, 0, none⟩ = some (.bool nb) := (blk_cell hst.b1 0).trans rfl
        by_cases hlt2 : k < xs.length + ys.length
        · have hos := own_at hst.own (k : Int) (by omega) (by omega)
          have hos1 := own_at hst.own ((k : Int) + 1) (by omega) (by omega)
          have ek : ((k : Int) + 1).toNat = k + 1 := by omega
          have ek2 : ((k + 1 : Nat) : Int) = (k : Int) + 1 := by omega
          obtain ⟨hco, hfo⟩ := hos
          obtain ⟨hco1, hfo1⟩ := hos1
          rw [Int.toNat_natCast] at hco hfo
          rw [ek] at hco1 hfo1
          have hl1 := Lib.hid hst.len
          have hrs := hcar.step (by rw [hl1.out]; omega)
          rw [getD_set _ _ _ _ (by rw [hl1.out]; omega), if_neg (by omega), ← rd_getD, ← rd_getD, ek2] at hrs
          have Hrs := Lib.hid hrs
          have a0 := hcar.lo k
          have a1 := hcar.lo (k + 1)
          have a2 := hcar.at_
          have a3 := hcar.hi (k + 1) (by omega)
          rw [← rd_getD] at a0 a2
          rw [← rd_getD, ek2] at a1 a3
          clear hrs ek2
          have q0 : (0 : Int) ≤ (k : Int) := by omega
          have q1 : (k : Int) < (xs.length : Int) + ys.length + 1 := by omega
          have q2 : (0 : Int) ≤ (k : Int) + 1 := by omega
          have q3 : (k : Int) + 1 < (xs.length : Int) + ys.length + 1 := by omega
          have q5 : (k : Int) < (xs.length : Int) + ys.length := by omega
          have e1 := IntWalk.i64_in ((k : Int) + 1) (by omega)
          have e2 : (rd os k).tdiv 10 = rd os k / 10 := Int.tdiv_eq_ediv_of_nonneg a0
          have e3 := IntWalk.i64_in (rd os k / 10) (by omega)
          have e4 := IntWalk.i64_in (rd os ((k : Int) + 1) + rd os k / 10) (by omega)
          go_wp2
          go_still_tail 15, (by kernel_rfl)
          change wpList _ _ _ _ _ wr.drew
          go_wp2
          go_roundw
          case rel => exact ⟨k + 1, _, by go_num, by omega, ((hst.store (k + 1) _).store k _).drew, Hrs.out⟩
          case measure => simp [intOf] <;> omega
        · obtain rfl : k = xs.length + ys.length := by omega
          have hdg := hcar.done hst.len (mul_lt h3.dg k3.dg)
          have hl := Lib.hid hst.len
          obtain ⟨A', c', he, hrd⟩ := own_reads hst.own
          injection he with e1 e2 e3
          subst e1 e3
          have Hsum := Lib.hid (show sgn (!na == nb) (val os) = x * y by
            rw [hcar.v]
            have e1 := h3.eq
            have e2 := k3.eq
            unfold sgn
            cases na <;> cases nb <;> simp at e1 e2 ⊢ <;> rw [e1, e2] <;> first | rfl | grind)
          have Hb2 := Lib.hid hst.b2
          have hbel := hst.bel
          have hz : w.heap.size + 1 + 1 < wr.heap.size := blk_lt hst.b2
          clear hst hcar e2
          go_wp2_with (go_at_call 37; (with_reducible refine (sign _ _ _ _ os _ hrd (Nat.le_refl _) (by unfold maxLen; omega) hdg).mono ?_); rintro e w2 ⟨_, rfl, ⟨neg', A', c', ds', rfl, hr2, l1, l2, hx'⟩, hB2⟩; obtain ⟨hc2, hf2⟩ := bcell hB2; have f0 := (blk_cell Hb2.out 0).trans rfl; have f1 := (blk_cell Hb2.out 1).trans rfl; have f2 := blk_frozen Hb2.out)
          have hb2 : w2.heap[w.heap.size + 1 + 1]? = some (.cells #[.bool false, .slice none 0 0] 29 (0, 0)) := (hB2.block _ (by omega)).trans Hb2.out
          refine bodyPost_num rfl (num_set (b0 := false) hb2 hr2 l1 l2 (by have e := hx'; rw [Hsum.out] at e; exact e) ?_ (by omega) rfl _ rfl)
          exact Below.trans hbel (hB2.mono (by omega))
end Go.Proofs.Ytmipifokpogpbaa.R4
