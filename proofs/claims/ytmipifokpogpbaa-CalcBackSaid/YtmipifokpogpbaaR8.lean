import Derived.Test.YtmipifokpogpbaaR7
namespace Go.Proofs.Ytmipifokpogpbaa.R8
open Go.RowKit Go.Proofs.YtmipifokpogpbaaW.PrintWords Go.Proofs.Ytmipifokpogpbaa.M Go.Proofs.Ytmipifokpogpbaa.R1 Go.Proofs.Ytmipifokpogpbaa.R2 Go.Proofs.Ytmipifokpogpbaa.R3 Go.Proofs.Ytmipifokpogpbaa.R4 Go.Proofs.Ytmipifokpogpbaa.R5 Go.Proofs.Ytmipifokpogpbaa.R6 Go.Proofs.Ytmipifokpogpbaa.R7

/-- All numbers of a list are of 64 bits. -/
def In64 (l : List Int) : Prop := ∀ x ∈ l, -9223372036854775808 ≤ x ∧ x ≤ 9223372036854775807
theorem In64.get {l : List Int} (h : In64 l) (k : Nat) (hk : k < l.length) : -9223372036854775808 ≤ rd l k ∧ rd l k ≤ 9223372036854775807 := by
  rw [rd_getD, List.getD_eq_getElem?_getD, List.getElem?_eq_getElem hk]; exact h _ (List.getElem_mem hk)
/-- The sum of the first k, each the opposite where that is asked. -/
def sumK (l : List Int) (m : Bool) : Nat → Int
  | 0 => 0
  | k + 1 => sumK l m k + sgn m (rd l k)
theorem sumK_bd {l : List Int} (h : In64 l) (m : Bool) (k : Nat) (hk : k ≤ l.length) : -(k * 9223372036854775808 : Int) ≤ sumK l m k ∧ sumK l m k ≤ k * 9223372036854775808 := by
  induction k with
  | zero => simp [sumK]
  | succ k ih =>
    have h1 := ih (by omega)
    have h2 := h.get k (by omega)
    simp only [sumK, sgn]
    cases m <;> simp <;> omega
theorem big_ok {x : Int} {k : Nat} (h : -(k * 9223372036854775808 : Int) ≤ x ∧ x ≤ k * 9223372036854775808) (hk : k ≤ 100000) : -10 ^ 1000000 < x ∧ x < 10 ^ 1000000 := by
  have h1 := pow_le (show 30 ≤ 1000000 by omega)
  have h2 : (10 : Int) ^ 30 = 1000000000000000000000000000000 := by decide
  rw [h2] at h1
  omega

/-- Sum's memory. -/
structure SSt (w wr : World) (x : Int) : Prop where
  b4 : wr.heap[w.heap.size]? = some (.cells #[.bool false, .slice none 0 0] 29 (0, 0))
  b5 : NBox wr (w.heap.size + 1) x
  bel : Below w.heap.size w wr

set_option maxHeartbeats 2000000 in
theorem sum_false (A : Option Addr) (n c : Nat) (l : List Int) (w : World) (hr : ReadsInt w .i64 A n l) (h64 : In64 l) (hn : n ≤ 100000) : Calls Try.prog 21 #[.slice A n c, .bool false] w (NumR w (sumK l false n)) := by
  have hl := Lib.hid hr.1
  go_enter Try.func21, Try.ntmps21
  go_wp2
  have s0 : SSt w ((w.alloc (.cells #[.bool false, .slice none 0 0] 29)).alloc (.cells #[.bool false, .slice none 0 0] 29)) 0 :=
    ⟨(get_old _ _ _ (by simp)).trans (get_new _ _ _ rfl), ⟨false, none, 0, [], get_new _ _ _ (by simp), ⟨rfl, by simp, fun h => absurd h (by simp)⟩, by simp, by simp, ⟨Dg.nil, Canon.nil, rfl, fun h => by simp at h⟩⟩, by go_grown⟩
  go_loopw [6] (fun i wr => ∃ k : Nat, i = .int .i64 k ∧ k ≤ n ∧ SSt w wr (sumK l false k)) (fun i _ => n - (intOf i).toNat)
  case atStart => exact ⟨0, rfl, by omega, s0⟩
  case round =>
    clear s0
    obtain ⟨k, rfl, hk, b4, b5, bel⟩ := hrel
    by_cases hlt : k < n
    · obtain ⟨ad, rfl, hcx⟩ := (hr.below bel).at_ k (by omega) (by omega)
      rw [Int.toNat_natCast] at hcx
      have q0 : (0 : Int) ≤ (k : Int) := by omega
      have q1 : (k : Int) < (n : Int) := by omega
      obtain ⟨x0, x1⟩ := h64.get k (by have := hl.out; omega)
      have hbd := big_ok (sumK_bd h64 false k (by have := hl.out; omega)) (by omega)
      have hz : w.heap.size + 1 < wr.heap.size := by obtain ⟨_, _, _, _, e, _⟩ := b5; exact blk_lt e
      go_wp2_with fail
      (with_reducible refine (of_ (rd l k) _ x0 x1).mono ?_)
      rintro e W1 ⟨_, rfl, hN1, hB1⟩
      have hz1 := hB1.size
      have b5' := b5.below hB1
      have b4' : W1.heap[w.heap.size]? = some (.cells #[.bool false, .slice none 0 0] 29 (0, 0)) := (hB1.block _ (by omega)).trans b4
      have bel1 : Below w.heap.size w W1 := bel.trans (hB1.mono (by omega))
      clear b4 b5 hB1 hcx
      have B4 := Lib.hid b4'
      clear b4'
      have hN := hN1
      obtain ⟨n1, A1, c1, d1, rfl, hr1, l1, m1, hx1⟩ := hN1
      have hb5 := b5'
      obtain ⟨n5, A5, c5, d5, e5, hr5, l5, m5, hx5⟩ := b5'
      have f0 : W1.cell? ⟨w.heap.size + 1, 0, none⟩ = some (.bool n5) := (blk_cell e5 0).trans rfl
      have f1 : W1.cell? ⟨w.heap.size + 1, 1, none⟩ = some (.slice A5 d5.length c5) := (blk_cell e5 1).trans rfl
      have E5 := Lib.hid e5
      clear e5
      have hlt1 : w.heap.size + 1 < W1.heap.size := by omega
      have P1 : Below W1.heap.size W1 (W1.alloc (.cells #[.bool n1, .slice A1 d1.length c1] 29)) := by go_grown
      have G1 : Hid ((W1.alloc (.cells #[.bool n1, .slice A1 d1.length c1] 29)).heap[W1.heap.size]? = some (.cells #[.bool n1, .slice A1 d1.length c1] 29 (0, 0))) := get_new _ _ _ rfl
      have U5 : Num (W1.alloc (.cells #[.bool n1, .slice A1 d1.length c1] 29)) (.agg #[.bool n5, .slice A5 d5.length c5]) (sumK l false k) := ⟨n5, A5, c5, d5, rfl, hr5.below P1, l5, m5, hx5⟩
      have U1 := hN.below P1
      have fz : ∀ o, W1.frozen? ⟨w.heap.size + 1, o, none⟩ = false := blk_frozen E5.out
      clear hN
      go_wp2_with fail
      (with_reducible refine (plus _ _ (sumK l false k) (rd l k) _ U5 U1 hbd.1 hbd.2 (by have := (big_ok (k := 1) (x := rd l k) (by omega) (by omega)); exact this.1) (by have := (big_ok (k := 1) (x := rd l k) (by omega) (by omega)); exact this.2)).mono ?_)
      rintro e W4 ⟨_, rfl, hN4, hB4⟩
      have PX : Below W1.heap.size W1 W4 := P1.trans (hB4.mono (by simp))
      obtain ⟨n4, A4, c4, d4, rfl, hr4, l4, m4, hx4⟩ := hN4
      have z4 := PX.size
      have e5 : W4.heap[w.heap.size + 1]? = some (.cells #[.bool n5, .slice A5 d5.length c5] 29 (0, 0)) := (PX.block _ hlt1).trans E5.out
      have j0 : W4.cell? ⟨w.heap.size + 1, 0, none⟩ = some (.bool n5) := (blk_cell e5 0).trans rfl
      have j1 : W4.cell? ⟨w.heap.size + 1, 1, none⟩ = some (.slice A5 d5.length c5) := (blk_cell e5 1).trans rfl
      have j2 := blk_frozen e5
      have e4 : W4.heap[w.heap.size]? = some (.cells #[.bool false, .slice none 0 0] 29 (0, 0)) := (PX.block _ (by omega)).trans B4.out
      have hF : SSt w ((W4.setCell ⟨w.heap.size + 1, 0, none⟩ (.bool n4)).setCell ⟨w.heap.size + 1, 1, none⟩ (.slice A4 d4.length c4)) (sumK l false (k + 1)) :=
        ⟨blk_far (blk_far e4 (by simp) _) (by simp) _, by rw [← show sumK l false k + rd l k = sumK l false (k + 1) from rfl]; exact nbox_set e5 hr4 l4 m4 hx4, ((bel1.trans (PX.mono (by omega))).setCell (by simp) _).setCell (by simp) _⟩
      clear e5 e4
      go_wp2
      go_roundw
      case rel => exact ⟨k + 1, by go_num, by omega, hF⟩
      case measure => simp [intOf] <;> omega
    · obtain rfl : k = n := by omega
      obtain ⟨n5, A5, c5, d5, e5, hr5, l5, m5, hx5⟩ := b5
      have f0 : wr.cell? ⟨w.heap.size + 1, 0, none⟩ = some (.bool n5) := (blk_cell e5 0).trans rfl
      have f1 : wr.cell? ⟨w.heap.size + 1, 1, none⟩ = some (.slice A5 d5.length c5) := (blk_cell e5 1).trans rfl
      have f2 : wr.cell? ⟨w.heap.size, 0, none⟩ = some (.bool false) := (blk_cell b4 0).trans rfl
      have f3 : wr.cell? ⟨w.heap.size, 1, none⟩ = some (.slice none 0 0) := (blk_cell b4 1).trans rfl
      have f4 := blk_frozen b4
      have B4 := Lib.hid b4
      clear b4 e5
      go_wp2
      exact bodyPost_num rfl (num_set (b0 := false) B4.out hr5 l5 m5 hx5 bel (Nat.le_refl _) rfl _ rfl)

set_option maxHeartbeats 2000000 in
theorem sum_true (A : Option Addr) (n c : Nat) (l : List Int) (w : World) (hr : ReadsInt w .i64 A n l) (h64 : In64 l) (hn : n ≤ 100000) : Calls Try.prog 21 #[.slice A n c, .bool true] w (NumR w (sumK l true n)) := by
  have hl := Lib.hid hr.1
  go_enter Try.func21, Try.ntmps21
  go_wp2
  have s0 : SSt w ((w.alloc (.cells #[.bool false, .slice none 0 0] 29)).alloc (.cells #[.bool false, .slice none 0 0] 29)) 0 :=
    ⟨(get_old _ _ _ (by simp)).trans (get_new _ _ _ rfl), ⟨false, none, 0, [], get_new _ _ _ (by simp), ⟨rfl, by simp, fun h => absurd h (by simp)⟩, by simp, by simp, ⟨Dg.nil, Canon.nil, rfl, fun h => by simp at h⟩⟩, by go_grown⟩
  go_loopw [6] (fun i wr => ∃ k : Nat, i = .int .i64 k ∧ k ≤ n ∧ SSt w wr (sumK l true k)) (fun i _ => n - (intOf i).toNat)
  case atStart => exact ⟨0, rfl, by omega, s0⟩
  case round =>
    clear s0
    obtain ⟨k, rfl, hk, b4, b5, bel⟩ := hrel
    by_cases hlt : k < n
    · obtain ⟨ad, rfl, hcx⟩ := (hr.below bel).at_ k (by omega) (by omega)
      rw [Int.toNat_natCast] at hcx
      have q0 : (0 : Int) ≤ (k : Int) := by omega
      have q1 : (k : Int) < (n : Int) := by omega
      obtain ⟨x0, x1⟩ := h64.get k (by have := hl.out; omega)
      have hbd := big_ok (sumK_bd h64 true k (by have := hl.out; omega)) (by omega)
      have hz : w.heap.size + 1 < wr.heap.size := by obtain ⟨_, _, _, _, e, _⟩ := b5; exact blk_lt e
      go_wp2_with fail
      (with_reducible refine (of_ (rd l k) _ x0 x1).mono ?_)
      rintro e W1 ⟨_, rfl, hN1, hB1⟩
      have hz1 := hB1.size
      have b5' := b5.below hB1
      have b4' : W1.heap[w.heap.size]? = some (.cells #[.bool false, .slice none 0 0] 29 (0, 0)) := (hB1.block _ (by omega)).trans b4
      have bel1 : Below w.heap.size w W1 := bel.trans (hB1.mono (by omega))
      clear b4 b5 hB1 hcx
      have B4 := Lib.hid b4'
      clear b4'
      have hN := hN1
      obtain ⟨n1, A1, c1, d1, rfl, hr1, l1, m1, hx1⟩ := hN1
      have hb5 := b5'
      obtain ⟨n5, A5, c5, d5, e5, hr5, l5, m5, hx5⟩ := b5'
      have f0 : W1.cell? ⟨w.heap.size + 1, 0, none⟩ = some (.bool n5) := (blk_cell e5 0).trans rfl
      have f1 : W1.cell? ⟨w.heap.size + 1, 1, none⟩ = some (.slice A5 d5.length c5) := (blk_cell e5 1).trans rfl
      have E5 := Lib.hid e5
      clear e5
      have hlt1 : w.heap.size + 1 < W1.heap.size := by omega
      have P1 : Below W1.heap.size W1 (W1.alloc (.cells #[.bool n1, .slice A1 d1.length c1] 29)) := by go_grown
      have G1 : Hid ((W1.alloc (.cells #[.bool n1, .slice A1 d1.length c1] 29)).heap[W1.heap.size]? = some (.cells #[.bool n1, .slice A1 d1.length c1] 29 (0, 0))) := get_new _ _ _ rfl
      have U5 : Num (W1.alloc (.cells #[.bool n1, .slice A1 d1.length c1] 29)) (.agg #[.bool n5, .slice A5 d5.length c5]) (sumK l true k) := ⟨n5, A5, c5, d5, rfl, hr5.below P1, l5, m5, hx5⟩
      have U1 := hN.below P1
      have fz : ∀ o, W1.frozen? ⟨w.heap.size + 1, o, none⟩ = false := blk_frozen E5.out
      clear hN
      go_wp2_with fail
      (with_reducible refine (minus _ (rd l k) _ U1).mono ?_)
      rintro e W2 ⟨_, rfl, hN2, hB2⟩
      obtain ⟨n2, A2, c2, d2, rfl, hr2, l2, m2, hx2⟩ := hN2
      have hz2 : W1.heap.size + 1 ≤ W2.heap.size := by have := hB2.size; simpa using this
      have P2 : Below W1.heap.size W1 W2 := P1.trans (hB2.mono (by simp))
      have e7 : W2.heap[W1.heap.size]? = some (.cells #[.bool n1, .slice A1 d1.length c1] 29 (0, 0)) := (hB2.block _ (by simp)).trans G1.out
      have k0 : W2.cell? ⟨W1.heap.size, 0, none⟩ = some (.bool n1) := (blk_cell e7 0).trans rfl
      have k1 : W2.cell? ⟨W1.heap.size, 1, none⟩ = some (.slice A1 d1.length c1) := (blk_cell e7 1).trans rfl
      have k2 := blk_frozen e7
      have hb5 := hb5.below P2
      have e5 : W2.heap[w.heap.size + 1]? = some (.cells #[.bool n5, .slice A5 d5.length c5] 29 (0, 0)) := (P2.block _ (by omega)).trans E5.out
      have f0 : W2.cell? ⟨w.heap.size + 1, 0, none⟩ = some (.bool n5) := (blk_cell e5 0).trans rfl
      have f1 : W2.cell? ⟨w.heap.size + 1, 1, none⟩ = some (.slice A5 d5.length c5) := (blk_cell e5 1).trans rfl
      have hS : NBox ((W2.setCell ⟨W1.heap.size, 0, none⟩ (.bool n2)).setCell ⟨W1.heap.size, 1, none⟩ (.slice A2 d2.length c2)) W1.heap.size (-rd l k) := nbox_set e7 hr2 l2 m2 hx2
      have hT : NBox ((W2.setCell ⟨W1.heap.size, 0, none⟩ (.bool n2)).setCell ⟨W1.heap.size, 1, none⟩ (.slice A2 d2.length c2)) (w.heap.size + 1) (sumK l true k) := nbox_far hb5 e7 (by omega)
      have e5' : Hid (((W2.setCell ⟨W1.heap.size, 0, none⟩ (.bool n2)).setCell ⟨W1.heap.size, 1, none⟩ (.slice A2 d2.length c2)).heap[w.heap.size + 1]? = some (.cells #[.bool n5, .slice A5 d5.length c5] 29 (0, 0))) := blk_far (blk_far e5 (by simp; omega) _) (by simp; omega) _
      have E7 := Lib.hid e7
      have P3 : Below W1.heap.size W1 ((W2.setCell ⟨W1.heap.size, 0, none⟩ (.bool n2)).setCell ⟨W1.heap.size, 1, none⟩ (.slice A2 d2.length c2)) := (P2.setCell (by simp) _).setCell (by simp) _
      have z3 : W1.heap.size < ((W2.setCell ⟨W1.heap.size, 0, none⟩ (.bool n2)).setCell ⟨W1.heap.size, 1, none⟩ (.slice A2 d2.length c2)).heap.size := by simp; omega
      have n0 : ¬ (W1.heap.size = w.heap.size + 1) := by omega
      have h70 : ((W2.setCell ⟨W1.heap.size, 0, none⟩ (.bool n2)).setCell ⟨W1.heap.size, 1, none⟩ (.slice A2 d2.length c2)).cell? ⟨W1.heap.size, 0, none⟩ = some (.bool n2) := (blk_cell (blk_put (blk_put e7 0 (.bool n2) rfl) 1 (.slice A2 d2.length c2) rfl) 0).trans rfl
      have h71 : ((W2.setCell ⟨W1.heap.size, 0, none⟩ (.bool n2)).setCell ⟨W1.heap.size, 1, none⟩ (.slice A2 d2.length c2)).cell? ⟨W1.heap.size, 1, none⟩ = some (.slice A2 d2.length c2) := (blk_cell (blk_put (blk_put e7 0 (.bool n2) rfl) 1 (.slice A2 d2.length c2) rfl) 1).trans rfl
      have h50 : ((W2.setCell ⟨W1.heap.size, 0, none⟩ (.bool n2)).setCell ⟨W1.heap.size, 1, none⟩ (.slice A2 d2.length c2)).cell? ⟨w.heap.size + 1, 0, none⟩ = some (.bool n5) := (blk_cell e5'.out 0).trans rfl
      have h51 : ((W2.setCell ⟨W1.heap.size, 0, none⟩ (.bool n2)).setCell ⟨W1.heap.size, 1, none⟩ (.slice A2 d2.length c2)).cell? ⟨w.heap.size + 1, 1, none⟩ = some (.slice A5 d5.length c5) := (blk_cell e5'.out 1).trans rfl
      clear e7 e5
      go_wp2_with fail
      generalize (W2.setCell ⟨W1.heap.size, 0, none⟩ (.bool n2)).setCell ⟨W1.heap.size, 1, none⟩ (.slice A2 d2.length c2) = W3 at *
      clear k0 k1 k2 f0 f1 n0
      have V5 : Num W3 (.agg #[.bool n5, .slice A5 d5.length c5]) (sumK l true k) := by
        obtain ⟨a1, a2, a3, a4, a5, a6, a7, a8, a9⟩ := hT
        rw [e5'.out] at a5
        injection a5 with a5
        injection a5 with a5 _ _
        exact ⟨a1, a2, a3, a4, by rw [a5], a6, a7, a8, a9⟩
      have V7 : Num W3 (.agg #[.bool n2, .slice A2 d2.length c2]) (-rd l k) := by
        obtain ⟨a1, a2, a3, a4, a5, a6, a7, a8, a9⟩ := hS
        have b0 := (blk_cell a5 0).symm.trans h70
        have b1 := (blk_cell a5 1).symm.trans h71
        simp at b0 b1
        obtain ⟨b1, b2, b3⟩ := b1
        refine ⟨a1, a2, a3, a4, by rw [← b0, b1, b2, b3], a6, a7, a8, a9⟩
      (with_reducible refine (plus _ _ (sumK l true k) (-rd l k) _ V5 V7 hbd.1 hbd.2 (by have := (big_ok (k := 1) (x := -rd l k) (by omega) (by omega)); exact this.1) (by have := (big_ok (k := 1) (x := -rd l k) (by omega) (by omega)); exact this.2)).mono ?_)
      rintro e W4 ⟨_, rfl, hN4, hB4⟩
      have PX : Below W1.heap.size W1 W4 := P3.trans (hB4.mono (by omega))
      obtain ⟨n4, A4, c4, d4, rfl, hr4, l4, m4, hx4⟩ := hN4
      have z4 := PX.size
      have e5 : W4.heap[w.heap.size + 1]? = some (.cells #[.bool n5, .slice A5 d5.length c5] 29 (0, 0)) := (PX.block _ hlt1).trans E5.out
      have j0 : W4.cell? ⟨w.heap.size + 1, 0, none⟩ = some (.bool n5) := (blk_cell e5 0).trans rfl
      have j1 : W4.cell? ⟨w.heap.size + 1, 1, none⟩ = some (.slice A5 d5.length c5) := (blk_cell e5 1).trans rfl
      have j2 := blk_frozen e5
      have e4 : W4.heap[w.heap.size]? = some (.cells #[.bool false, .slice none 0 0] 29 (0, 0)) := (PX.block _ (by omega)).trans B4.out
      have hF : SSt w ((W4.setCell ⟨w.heap.size + 1, 0, none⟩ (.bool n4)).setCell ⟨w.heap.size + 1, 1, none⟩ (.slice A4 d4.length c4)) (sumK l true (k + 1)) :=
        ⟨blk_far (blk_far e4 (by simp) _) (by simp) _, by rw [← show sumK l true k + -rd l k = sumK l true (k + 1) from rfl]; exact nbox_set e5 hr4 l4 m4 hx4, ((bel1.trans (PX.mono (by omega))).setCell (by simp) _).setCell (by simp) _⟩
      clear e5 e4
      go_wp2
      go_roundw
      case rel => exact ⟨k + 1, by go_num, by omega, hF⟩
      case measure => simp [intOf] <;> omega
    · obtain rfl : k = n := by omega
      obtain ⟨n5, A5, c5, d5, e5, hr5, l5, m5, hx5⟩ := b5
      have f0 : wr.cell? ⟨w.heap.size + 1, 0, none⟩ = some (.bool n5) := (blk_cell e5 0).trans rfl
      have f1 : wr.cell? ⟨w.heap.size + 1, 1, none⟩ = some (.slice A5 d5.length c5) := (blk_cell e5 1).trans rfl
      have f2 : wr.cell? ⟨w.heap.size, 0, none⟩ = some (.bool false) := (blk_cell b4 0).trans rfl
      have f3 : wr.cell? ⟨w.heap.size, 1, none⟩ = some (.slice none 0 0) := (blk_cell b4 1).trans rfl
      have f4 := blk_frozen b4
      have B4 := Lib.hid b4
      clear b4 e5
      go_wp2
      exact bodyPost_num rfl (num_set (b0 := false) B4.out hr5 l5 m5 hx5 bel (Nat.le_refl _) rfl _ rfl)

end Go.Proofs.Ytmipifokpogpbaa.R8
