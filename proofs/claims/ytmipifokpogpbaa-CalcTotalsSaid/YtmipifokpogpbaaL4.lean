import Derived.Test.YtmipifokpogpbaaBR
import Derived.Test.YtmipifokpogpbaaF3
set_option linter.unusedSimpArgs false
set_option linter.unusedVariables false
namespace Go.Proofs.Ytmipifokpogpbaa.L4
open Go.RowKit Go.Proofs.YtmipifokpogpbaaW.PrintWords Go.Proofs.YtmipifokpogpbaaW.PrintLast Go.Proofs.Ytmipifokpogpbaa.C1 Go.Proofs.Ytmipifokpogpbaa.C2 Go.Proofs.Ytmipifokpogpbaa.C3 Go.Proofs.Ytmipifokpogpbaa.C4 Go.Proofs.Ytmipifokpogpbaa.BR

/-- One of the acts: take or put, which numbers. -/
def Act1 (w : World) (g o : Nat) (i : Nat) : Prop := ∃ b A n c l, w.cell? ⟨g, o + i * 2, none⟩ = some (.bool b) ∧ w.cell? ⟨g, o + i * 2 + 1, none⟩ = some (.slice A n c) ∧ ReadsInt w .i64 A n l ∧ In64 l ∧ n ≤ 9223372036854775807
theorem add_at (g o j : Nat) : (⟨g, o, none⟩ : Addr).add j = ⟨g, o + j, none⟩ := by unfold Addr.add; split <;> simp_all
/-- The acts. -/
def Acts (w : World) (A : Option Addr) (m : Nat) : Prop := 0 < m → ∃ g o, A = some ⟨g, o, none⟩ ∧ ∀ i < m, Act1 w g o i
/-- A number in a variable; its digits are not in block g. -/
def FBox (w : World) (g2 g : Nat) (x : Int) : Prop := ∃ neg A c ds, w.heap[g2]? = some (.cells #[.bool neg, .slice A ds.length c] 29 (0, 0)) ∧ ReadsInt w .i64 A ds.length ds ∧ ds.length ≤ c ∧ c ≤ maxLen ∧ M.Nm neg ds x ∧ ∀ a, A = some a → a.block ≠ g
theorem cell_same {w w' : World} {a : Addr} {v : Value} (h : w'.heap[a.block]? = w.heap[a.block]?) (hc : w.cell? a = some v) : w'.cell? a = some v := by
  simpa [World.cell?, h] using hc
theorem keep_reads {g : Nat} {w w' : World} (h : Keep1 g w w') {A : Option Addr} {n : Nat} {ds : List Int} (hr : ReadsInt w .i64 A n ds) (hA : ∀ a, A = some a → a.block ≠ g) : ReadsInt w' .i64 A n ds := by
  refine ⟨hr.1, hr.2.1, fun hn => ?_⟩
  obtain ⟨ad, e, hc⟩ := hr.2.2 hn
  refine ⟨ad, e, fun i hi => ?_⟩
  have h1 := hc i hi
  have h2 := hA ad e
  have h3 := World.block_lt_of_cell? w _ h1
  have h4 : (ad.add i).block = ad.block := by unfold Addr.add; split <;> rfl
  exact cell_same (h.block _ h3 (by rw [h4]; exact h2)) h1
theorem FBox.keep {g2 g : Nat} {w w' : World} {x : Int} (hb : FBox w g2 g x) (h : Keep1 g w w') (hne : g2 ≠ g) : FBox w' g2 g x := by
  obtain ⟨neg, A, c, ds, e, hr, l1, l2, hx, hA⟩ := hb
  exact ⟨neg, A, c, ds, (h.block _ (blk_lt e) hne).trans e, keep_reads h hr hA, l1, l2, hx, hA⟩
theorem FBox.below {g2 g : Nat} {w w' : World} {x : Int} (hb : FBox w g2 g x) (h : Below w.heap.size w w') : FBox w' g2 g x := by
  obtain ⟨neg, A, c, ds, e, hr, l1, l2, hx, hA⟩ := hb
  exact ⟨neg, A, c, ds, (h.block _ (blk_lt e)).trans e, hr.below h, l1, l2, hx, hA⟩
theorem fbox_set {w : World} {g g0 : Nat} {b0 neg : Bool} {A0 A : Option Addr} {n0 c0 c : Nat} {ds : List Int} {x : Int} (hb : w.heap[g]? = some (.cells #[.bool b0, .slice A0 n0 c0] 29 (0, 0)))
    (hr : ReadsInt w .i64 A ds.length ds) (l1 : ds.length ≤ c) (l2 : c ≤ maxLen) (hx : M.Nm neg ds x) (hA : ∀ a, A = some a → a.block ≠ g0) : FBox ((w.setCell ⟨g, 0, none⟩ (.bool neg)).setCell ⟨g, 1, none⟩ (.slice A ds.length c)) g g0 x := by
  have h1 := blk_put hb 0 (.bool neg) rfl
  refine ⟨neg, A, c, ds, blk_put h1 1 (.slice A ds.length c) rfl, ?_, l1, l2, hx, hA⟩
  refine R3.reads_set (u := .slice A0 n0 c0) (R3.reads_set (u := .bool b0) hr _ ?_ (fun q h => by cases h)) _ ?_ (fun q h => by cases h)
  · exact (blk_cell hb 0).trans rfl
  · exact (blk_cell h1 1).trans rfl
theorem fbox_num {w : World} {g2 g : Nat} {x : Int} {neg : Bool} {A : Option Addr} {n c : Nat} (h : FBox w g2 g x) (h0 : w.cell? ⟨g2, 0, none⟩ = some (.bool neg)) (h1 : w.cell? ⟨g2, 1, none⟩ = some (.slice A n c)) : R2.Num w (.agg #[.bool neg, .slice A n c]) x := by
  obtain ⟨a1, a2, a3, a4, a5, a6, a7, a8, a9, _⟩ := h
  have b0 := (blk_cell a5 0).symm.trans h0
  have b1 := (blk_cell a5 1).symm.trans h1
  simp at b0 b1
  obtain ⟨b1, b2, b3⟩ := b1
  exact ⟨a1, a2, a3, a4, by rw [← b0, b1, b2, b3], a6, a7, a8, a9⟩
/-- What the law holds in memory, behind k acts. -/
structure TSt (w wr : World) (s n : Int) (k : Nat) : Prop where
  tot : Tot wr w.heap.size s n
  box : FBox wr (w.heap.size + 1) w.heap.size s
  bel : Below w.heap.size w wr
  s0 : -(k * 184467440737095516160 : Int) ≤ s
  s1 : s ≤ k * 184467440737095516160
  n0 : -(k * 20 : Int) ≤ n
  n1 : n ≤ k * 20
theorem s_ok {s : Int} {k : Nat} (s0 : -(k * 184467440737095516160 : Int) ≤ s) (s1 : s ≤ k * 184467440737095516160) (hk : k ≤ 31) : -10 ^ 1000000 < s ∧ s < 10 ^ 1000000 :=
  R8.big_ok (k := k * 20) (by push_cast; omega) (by omega)
theorem s_bd {l : List Int} (h : In64 l) (m : Bool) (n : Nat) (hn : n ≤ l.length) (h20 : n ≤ 20) : -184467440737095516160 ≤ sumI l m n ∧ sumI l m n ≤ 184467440737095516160 := by
  have := R8.sumK_bd h m n hn
  rw [sumK_eq] at this
  omega

set_option maxRecDepth 8000 in
set_option maxHeartbeats 4000000 in
theorem law (A : Option Addr) (m c : Nat) (w : World) (ha : Acts w A m) (hm : m ≤ 9223372036854775807) :
    Calls Try.prog 4 #[.slice A m c] w fun e w' => e = .returned (.bool true) ∧ Below w.heap.size w w' := by
  by_cases hbig : 30 < m
  · go_enter Try.func4, Try.ntmps4
    go_wp2_with (go_at_call 12; (with_reducible refine (C4.awake _).mono ?_); rintro e W1 ⟨rfl, hB⟩)
    go_ret
    exact ⟨rfl, hB⟩
  go_enter Try.func4, Try.ntmps4
  go_wp2
  have t0 : TSt w ((w.alloc (.cells #[.int .u64 0, .int .u64 0, .int .i64 0] 41)).alloc (.cells #[.bool false, .slice none 0 0] 29)) 0 0 0 :=
    ⟨(get_old _ _ _ (by simp)).trans (get_new _ _ _ rfl), ⟨false, none, 0, [], get_new _ _ _ (by simp), ⟨rfl, by simp, fun h => absurd h (by simp)⟩, by simp, by simp, ⟨M.Dg.nil, M.Canon.nil, rfl, fun h => by simp at h⟩, fun a h => by cases h⟩, by go_grown, by simp, by simp, by simp, by simp⟩
  go_loopw [7, 6] (fun i nn wr => ∃ k : Nat, ∃ s n : Int, i = .int .i64 k ∧ k ≤ m ∧ nn = .int .i64 n ∧ TSt w wr s n k) (fun i _ _ => m - (intOf i).toNat)
  case atStart => exact ⟨0, 0, 0, rfl, by omega, rfl, t0⟩
  case round =>
    clear t0
    obtain ⟨k, s, n, rfl, hk, rfl, tot, box, bel, s0, s1, n0, n1⟩ := hrel
    by_cases hlt : k < m
    · obtain ⟨g, o, rfl, hx⟩ := ha (by omega)
      obtain ⟨b, A1, m1, c1, l, z0, z1, hr, h64, hm1⟩ := hx k hlt
      have q2 := add_at g o (k * 2)
      have q0 : (0 : Int) ≤ (k : Int) := by omega
      have q1 : (k : Int) < (m : Int) := by omega
      have y0 := pw_cell_below bel z0
      have y1 := pw_cell_below bel z1
      by_cases hb20 : 20 < m1
      · go_wp2_with (go_at_call 12; (with_reducible refine (C4.awake _).mono ?_); rintro e W1 ⟨rfl, hB⟩)
        go_ret
        exact ⟨rfl, bel.trans (hB.mono bel.size)⟩
      have hl := Lib.hid hr.1
      cases b with
      | true =>
        go_wp2_with fail
        (with_reducible refine (C3.take w.heap.size A1 m1 c1 l s n _ (hr.below bel) h64 tot (by omega) (by omega) (by omega)).mono ?_)
        rintro e V ⟨rfl, totV, kV⟩
        have hz0 : w.heap.size + 1 < wr.heap.size := by obtain ⟨_, _, _, _, e, _⟩ := box; exact blk_lt e
        have boxV := box.keep kV (by omega)
        have belV : Below w.heap.size w V := bel.trans (kV.to_below (Nat.le_refl _) (by omega))
        clear tot box bel y0 y1
        have y0 := pw_cell_below belV z0
        have y1 := pw_cell_below belV z1
        go_wp2_with fail
        (with_reducible refine (take_nil A1 m1 c1 _).mono ?_)
        rintro e V2 ⟨rfl, rfl⟩
        have hrV := hr.below belV
        have hz : w.heap.size + 1 < V.heap.size := by have := kV.size; omega
        obtain ⟨n5, A5, c5, d5, e5, hr5, l5, m5, hx5, hA5⟩ := boxV
        have f0 : V.cell? ⟨w.heap.size + 1, 0, none⟩ = some (.bool n5) := (blk_cell e5 0).trans rfl
        have f1 : V.cell? ⟨w.heap.size + 1, 1, none⟩ = some (.slice A5 d5.length c5) := (blk_cell e5 1).trans rfl
        have E5 := Lib.hid e5
        clear e5
        have bd := s_bd h64 true m1 (by have := hl.out; omega) (by omega)
        have o1 := Lib.hid (s_ok s0 s1 (by omega))
        have o2 := Lib.hid (s_ok (k := 1) (s := sumI l true m1) (by omega) (by omega) (by omega))
        have T1 := Lib.hid totV
        clear totV kV
        have nb1 : -9223372036854775808 ≤ n - m1 ∧ n - m1 ≤ 9223372036854775807 := by omega
        obtain ⟨nb1, nb2⟩ := nb1
        go_wp2_with fail
        refine start_ (n := 14) (S := fun w' => w'.cell? ⟨w.heap.size + 1, 0, none⟩ = some (.bool n5) ∧ w'.cell? ⟨w.heap.size + 1, 1, none⟩ = some (.slice A5 d5.length c5) ∧ w'.cell? ⟨g, o + k * 2, none⟩ = some (.bool true) ∧ w'.cell? ⟨g, o + k * 2 + 1, none⟩ = some (.slice A1 m1 c1)) (ds := [13]) #[false, false, false, false, false, false, false, false, false, false, false, false, false, false] (by kernel_rfl) rfl rfl ⟨f0, f1, y0, y1⟩ (fun hHeld => ?_)
        refine pure_ (i := 1) (N := some 83) (v := ?_) (a' := ?_) #[false, true, false, false, false, false, false, false, false, false, false, false, false, false] rfl rfl (by kernel_rfl) (fun _ _ _ h => h) (Or.inl ⟨by rfl, ?_⟩) ?_ ?_
        rotate_left
        · intro w'
          go_simp
          with_reducible rfl
        rotate_left
        · simp only [Act.put, List.setIfInBounds_toArray, List.set_cons_zero, List.set_cons_succ, i64_w, i32_w]
          rfl
        refine pure_ (i := 2) (N := some 84) (v := ?_) (a' := ?_) #[false, true, true, false, false, false, false, false, false, false, false, false, false, false] rfl rfl (by kernel_rfl) (fun _ _ _ h => h) (Or.inl ⟨by rfl, ?_⟩) ?_ ?_
        rotate_left
        · intro w'
          go_simp
          with_reducible rfl
        rotate_left
        · simp only [Act.put, List.setIfInBounds_toArray, List.set_cons_zero, List.set_cons_succ, i64_w, i32_w]
          rfl
        refine pure_ (i := 3) (N := some 85) (v := ?_) (a' := ?_) #[false, true, true, true, false, false, false, false, false, false, false, false, false, false] rfl rfl (by kernel_rfl) (fun _ _ _ h => h) (Or.inl ⟨by rfl, ?_⟩) ?_ ?_
        rotate_left
        · intro w'
          go_simp
          with_reducible rfl
        rotate_left
        · simp only [Act.put, List.setIfInBounds_toArray, List.set_cons_zero, List.set_cons_succ, i64_w, i32_w]
          rfl
        refine pure_ (i := 4) (N := some 86) (v := ?_) (a' := ?_) #[false, true, true, true, true, false, false, false, false, false, false, false, false, false] rfl rfl (by kernel_rfl) (fun _ _ _ h => h) (Or.inl ⟨by rfl, ?_⟩) ?_ ?_
        rotate_left
        · intro w'
          go_simp
          with_reducible rfl
        rotate_left
        · simp only [Act.put, List.setIfInBounds_toArray, List.set_cons_zero, List.set_cons_succ, i64_w, i32_w]
          rfl
        refine pure_ (i := 6) (N := some 88) (v := ?_) (a' := ?_) #[false, true, true, true, true, false, true, false, false, false, false, false, false, false] rfl rfl (by kernel_rfl) (fun _ _ _ h => h) (Or.inl ⟨by rfl, ?_⟩) ?_ ?_
        rotate_left
        · intro w'
          go_simp
          with_reducible rfl
        rotate_left
        · simp only [Act.put, List.setIfInBounds_toArray, List.set_cons_zero, List.set_cons_succ, i64_w, i32_w]
          rfl
        refine pure_ (i := 7) (N := some 89) (v := ?_) (a' := ?_) #[false, true, true, true, true, false, true, true, false, false, false, false, false, false] rfl rfl (by kernel_rfl) (fun _ _ _ h => h) (Or.inl ⟨by rfl, ?_⟩) ?_ ?_
        rotate_left
        · intro w'
          go_simp
          with_reducible rfl
        rotate_left
        · simp only [Act.put, List.setIfInBounds_toArray, List.set_cons_zero, List.set_cons_succ, i64_w, i32_w]
          rfl
        refine pure_ (i := 8) (N := some 90) (v := ?_) (a' := ?_) #[false, true, true, true, true, false, true, true, true, false, false, false, false, false] rfl rfl (by kernel_rfl) (fun _ _ _ h => h) (Or.inl ⟨by rfl, ?_⟩) ?_ ?_
        rotate_left
        · intro w'
          go_simp
          with_reducible rfl
        rotate_left
        · simp only [Act.put, List.setIfInBounds_toArray, List.set_cons_zero, List.set_cons_succ, i64_w, i32_w]
          rfl
        refine pure_ (i := 9) (N := some 91) (v := ?_) (a' := ?_) #[false, true, true, true, true, false, true, true, true, true, false, false, false, false] rfl rfl (by kernel_rfl) (fun _ _ _ h => h) (Or.inl ⟨by rfl, ?_⟩) ?_ ?_
        rotate_left
        · intro w'
          go_simp
          with_reducible rfl
        rotate_left
        · simp only [Act.put, List.setIfInBounds_toArray, List.set_cons_zero, List.set_cons_succ, i64_w, i32_w]
          rfl
        refine take_ (i := 0) (N := some 82) (v := ?_) (a' := ?_) #[true, true, true, true, true, false, true, true, true, true, false, false, false, false] rfl rfl (by kernel_rfl) (fun _ _ _ h => h) (Or.inl ⟨by rfl, ?_⟩) hHeld ?_ ?_
        rotate_left
        · rintro w' ⟨s0, s1, s2, s3⟩
          go_simp
          with_reducible rfl
        rotate_left
        · simp only [Act.put, List.setIfInBounds_toArray, List.set_cons_zero, List.set_cons_succ, i64_w, i32_w]
          rfl
        refine take_ (i := 5) (N := some 87) (v := ?_) (a' := ?_) #[true, true, true, true, true, true, true, true, true, true, false, false, false, false] rfl rfl (by kernel_rfl) (fun _ _ _ h => h) (Or.inl ⟨by rfl, ?_⟩) hHeld ?_ ?_
        rotate_left
        · rintro w' ⟨s0, s1, s2, s3⟩
          go_simp
          with_reducible rfl
        rotate_left
        · simp only [Act.put, List.setIfInBounds_toArray, List.set_cons_zero, List.set_cons_succ, i64_w, i32_w]
          rfl
        refine take_ (i := 10) (N := some 92) (v := ?_) (a' := ?_) #[true, true, true, true, true, true, true, true, true, true, true, false, false, false] rfl rfl (by kernel_rfl) (fun _ _ _ h => h) (Or.inl ⟨by rfl, ?_⟩) hHeld ?_ ?_
        rotate_left
        · rintro w' ⟨s0, s1, s2, s3⟩
          go_simp
          with_reducible rfl
        rotate_left
        · simp only [Act.put, List.setIfInBounds_toArray, List.set_cons_zero, List.set_cons_succ, i64_w, i32_w]
          rfl
        refine one_ (i := 11) (N := some 93) #[true, true, true, true, true, true, true, true, true, true, true, true, false, false] rfl rfl (by kernel_rfl) (by decide) (fun K hK => ?_)
        refine goes_ Try.func21 (by kernel_rfl) rfl #[.slice A1 m1 c1, .bool true] (by rfl) rfl rfl (by simp only [List.map_toArray, List.map_cons, List.map_nil]; rfl) ?_
        with_reducible refine (sumR true A1 m1 c1 l _ (hrV.below (Below.refl _ _).drew) h64 (by omega)).mono ?_
        rintro e W2 ⟨_, rfl, ⟨n6, A6, c6, d6, rfl, hr6, l6, m6, hx6⟩, hB2⟩
        refine ⟨_, rfl, ?_⟩
        have P2 : Below V.heap.size V W2 := (Below.refl _ V).drew.trans hB2
        have z2 : V.heap.size ≤ W2.heap.size := P2.size
        have V6 : R2.Num W2 (.agg #[.bool n6, .slice A6 d6.length c6]) (sumI l true m1) := ⟨n6, A6, c6, d6, rfl, hr6, l6, m6, hx6⟩
        have V5 : R2.Num W2 (.agg #[.bool n5, .slice A5 d5.length c5]) s := ⟨n5, A5, c5, d5, rfl, hr5.below P2, l5, m5, hx5⟩
        refine hK.out _ _ ⟨((P2.cell (p := ⟨w.heap.size + 1, 0, none⟩) hz).trans f0), ((P2.cell (p := ⟨w.heap.size + 1, 1, none⟩) hz).trans f1), (pw_cell_below P2 y0), (pw_cell_below P2 y1)⟩ (fun hHeld => ?_)
        clear hK K
        refine norm_ (a' := ?_) ?_ ?_
        rotate_left
        · show Act.put _ (some 93) _ = _
          simp only [Act.put, List.setIfInBounds_toArray, List.set_cons_zero, List.set_cons_succ, i64_w, i32_w]
          rfl
        refine one_ (i := 12) (N := some 94) #[true, true, true, true, true, true, true, true, true, true, true, true, true, false] rfl rfl (by kernel_rfl) (by decide) (fun K hK => ?_)
        refine goes_ Try.func16 (by kernel_rfl) rfl #[.agg #[.bool n5, .slice A5 d5.length c5], .agg #[.bool n6, .slice A6 d6.length c6]] (by rfl) rfl rfl (by simp only [List.map_toArray, List.map_cons, List.map_nil]; rfl) ?_
        with_reducible refine (F3.plus _ _ s (sumI l true m1) _ V5 V6 o1.out.1 o1.out.2 o2.out.1 o2.out.2).mono ?_
        rintro e W3 ⟨n7, A7, c7, d7, rfl, hr7, l7, m7, hx7, hA7, hB3⟩
        refine ⟨_, rfl, ?_⟩
        have P3 : Below V.heap.size V W3 := P2.trans (hB3.mono z2)
        refine hK.out _ _ ⟨((P3.cell (p := ⟨w.heap.size + 1, 0, none⟩) hz).trans f0), ((P3.cell (p := ⟨w.heap.size + 1, 1, none⟩) hz).trans f1), (pw_cell_below P3 y0), (pw_cell_below P3 y1)⟩ (fun hHeld => ?_)
        clear hK K
        refine norm_ (a' := ?_) ?_ ?_
        rotate_left
        · show Act.put _ (some 94) _ = _
          simp only [Act.put, List.setIfInBounds_toArray, List.set_cons_zero, List.set_cons_succ, i64_w, i32_w]
          rfl
        refine last_ (i := 13) (N := none) #[true, true, true, true, true, true, true, true, true, true, true, true, true, true] rfl rfl (by kernel_rfl) (by decide) (fun K hK => ?_)
        have z3 := P3.size
        have e5' : W3.heap[w.heap.size + 1]? = some (.cells #[.bool n5, .slice A5 d5.length c5] 29 (0, 0)) := (P3.block _ hz).trans E5.out
        have j0 : W3.cell? ⟨w.heap.size + 1, 0, none⟩ = some (.bool n5) := (blk_cell e5' 0).trans rfl
        have j1 : W3.cell? ⟨w.heap.size + 1, 1, none⟩ = some (.slice A5 d5.length c5) := (blk_cell e5' 1).trans rfl
        have j2 := blk_frozen e5'
        have J5 := Lib.hid e5'
        clear e5'
        refine skip_ (w1 := ?_) (by rfl) rfl ?_ ?_
        rotate_left
        · go_simp
          rfl
        refine hK.out _ _ ?_
        clear hK K
        refine done_ (by kernel_rfl) ?_

        have T3 : Tot W3 w.heap.size (s + sumI l true m1) (n - m1) := T1.out.below P3
        have hF : FBox ((W3.setCell ⟨w.heap.size + 1, 0, none⟩ (.bool n7)).setCell ⟨w.heap.size + 1, 1, none⟩ (.slice A7 d7.length c7)) (w.heap.size + 1) w.heap.size (s + sumI l true m1) :=
          fbox_set J5.out hr7 l7 m7 hx7 (fun a e => by have := hA7 a e; omega)
        have hT : Tot ((W3.setCell ⟨w.heap.size + 1, 0, none⟩ (.bool n7)).setCell ⟨w.heap.size + 1, 1, none⟩ (.slice A7 d7.length c7)) w.heap.size (s + sumI l true m1) (n - m1) := blk_far (blk_far T3 (by simp) _) (by simp) _
        have PB : Below w.heap.size w ((W3.setCell ⟨w.heap.size + 1, 0, none⟩ (.bool n7)).setCell ⟨w.heap.size + 1, 1, none⟩ (.slice A7 d7.length c7)) := ((belV.trans (P3.mono (by omega))).setCell (by simp) _).setCell (by simp) _
        clear T3 j0 j1 j2 f0 f1 y0 y1
        generalize (W3.setCell ⟨w.heap.size + 1, 0, none⟩ (.bool n7)).setCell ⟨w.heap.size + 1, 1, none⟩ (.slice A7 d7.length c7) = X at *
        have sb : -((k + 1 : Nat) * 184467440737095516160 : Int) ≤ s + sumI l true m1 ∧ s + sumI l true m1 ≤ (k + 1 : Nat) * 184467440737095516160 := by push_cast; omega
        have nb : -((k + 1 : Nat) * 20 : Int) ≤ n - m1 ∧ n - m1 ≤ (k + 1 : Nat) * 20 := by push_cast; omega
        generalize s + sumI l true m1 = s2 at *
        generalize n - (m1 : Int) = n2 at *
        have o3 := Lib.hid (s_ok sb.1 sb.2 (by omega))
        go_wp2_with fail
        (with_reducible refine (C3.sum w.heap.size s2 _ _ hT (by omega) (by omega)).mono ?_)
        rintro e X1 ⟨rfl, hB6⟩
        have PB1 := PB.trans (hB6.mono PB.size)
        have hT1 := hT.below hB6
        have hF1 := hF.below hB6
        clear hT hF hB6 PB
        obtain ⟨n8, A8, c8, d8, e8, hr8, l8, m8, hx8, hA8⟩ := hF1
        have g0 : X1.cell? ⟨w.heap.size + 1, 0, none⟩ = some (.bool n8) := (blk_cell e8 0).trans rfl
        have g1 : X1.cell? ⟨w.heap.size + 1, 1, none⟩ = some (.slice A8 d8.length c8) := (blk_cell e8 1).trans rfl
        have V8 : R2.Num X1 (.agg #[.bool n8, .slice A8 d8.length c8]) s2 := ⟨n8, A8, c8, d8, rfl, hr8, l8, m8, hx8⟩
        have E8 := Lib.hid e8
        clear e8
        have T8 := Lib.hid hT1
        clear hT1
        go_wp2_with fail
        (with_reducible refine (told _ s2 _ V8 o3.out).mono ?_)
        rintro e X2 ⟨rfl, hB7⟩
        have T9 := T8.out.below hB7
        go_wp2_with fail
        (with_reducible refine (C3.count w.heap.size s2 _ _ T9).mono ?_)
        rintro e X3 ⟨rfl, rfl⟩
        have hE0 : TSt w X2 s2 n2 (k + 1) := ⟨T9, ⟨n8, A8, c8, d8, (hB7.block _ (blk_lt E8.out)).trans E8.out, hr8.below hB7, l8, m8, hx8, hA8⟩, PB1.trans (hB7.mono PB1.size), sb.1, sb.2, nb.1, nb.2⟩
        have hE := Lib.hid hE0
        clear hE0 hHeld g0 g1 T9 sb nb bd s0 s1 n0 n1 V8 hx8 hx7 hx5
        go_wp2
        go_roundw
        case rel => exact ⟨k + 1, s2, _, by go_num, by omega, by first | rfl | go_num, hE.out⟩
        case measure => simp [intOf] <;> omega
      | false =>
        go_wp2_with fail
        (with_reducible refine (C3.put w.heap.size A1 m1 c1 l s n _ (hr.below bel) h64 tot (by omega) (by omega) (by omega)).mono ?_)
        rintro e V ⟨rfl, totV, kV⟩
        have hz0 : w.heap.size + 1 < wr.heap.size := by obtain ⟨_, _, _, _, e, _⟩ := box; exact blk_lt e
        have boxV := box.keep kV (by omega)
        have belV : Below w.heap.size w V := bel.trans (kV.to_below (Nat.le_refl _) (by omega))
        clear tot box bel y0 y1
        have y0 := pw_cell_below belV z0
        have y1 := pw_cell_below belV z1
        go_wp2_with fail
        (with_reducible refine (put_nil A1 m1 c1 _).mono ?_)
        rintro e V2 ⟨rfl, rfl⟩
        have hrV := hr.below belV
        have hz : w.heap.size + 1 < V.heap.size := by have := kV.size; omega
        obtain ⟨n5, A5, c5, d5, e5, hr5, l5, m5, hx5, hA5⟩ := boxV
        have f0 : V.cell? ⟨w.heap.size + 1, 0, none⟩ = some (.bool n5) := (blk_cell e5 0).trans rfl
        have f1 : V.cell? ⟨w.heap.size + 1, 1, none⟩ = some (.slice A5 d5.length c5) := (blk_cell e5 1).trans rfl
        have E5 := Lib.hid e5
        clear e5
        have bd := s_bd h64 false m1 (by have := hl.out; omega) (by omega)
        have o1 := Lib.hid (s_ok s0 s1 (by omega))
        have o2 := Lib.hid (s_ok (k := 1) (s := sumI l false m1) (by omega) (by omega) (by omega))
        have T1 := Lib.hid totV
        clear totV kV
        have nb1 : -9223372036854775808 ≤ n + m1 ∧ n + m1 ≤ 9223372036854775807 := by omega
        obtain ⟨nb1, nb2⟩ := nb1
        go_wp2_with fail
        refine start_ (n := 14) (S := fun w' => w'.cell? ⟨w.heap.size + 1, 0, none⟩ = some (.bool n5) ∧ w'.cell? ⟨w.heap.size + 1, 1, none⟩ = some (.slice A5 d5.length c5) ∧ w'.cell? ⟨g, o + k * 2, none⟩ = some (.bool false) ∧ w'.cell? ⟨g, o + k * 2 + 1, none⟩ = some (.slice A1 m1 c1)) (ds := [13]) #[false, false, false, false, false, false, false, false, false, false, false, false, false, false] (by kernel_rfl) rfl rfl ⟨f0, f1, y0, y1⟩ (fun hHeld => ?_)
        refine pure_ (i := 1) (N := some 83) (v := ?_) (a' := ?_) #[false, true, false, false, false, false, false, false, false, false, false, false, false, false] rfl rfl (by kernel_rfl) (fun _ _ _ h => h) (Or.inl ⟨by rfl, ?_⟩) ?_ ?_
        rotate_left
        · intro w'
          go_simp
          with_reducible rfl
        rotate_left
        · simp only [Act.put, List.setIfInBounds_toArray, List.set_cons_zero, List.set_cons_succ, i64_w, i32_w]
          rfl
        refine pure_ (i := 2) (N := some 84) (v := ?_) (a' := ?_) #[false, true, true, false, false, false, false, false, false, false, false, false, false, false] rfl rfl (by kernel_rfl) (fun _ _ _ h => h) (Or.inl ⟨by rfl, ?_⟩) ?_ ?_
        rotate_left
        · intro w'
          go_simp
          with_reducible rfl
        rotate_left
        · simp only [Act.put, List.setIfInBounds_toArray, List.set_cons_zero, List.set_cons_succ, i64_w, i32_w]
          rfl
        refine pure_ (i := 3) (N := some 85) (v := ?_) (a' := ?_) #[false, true, true, true, false, false, false, false, false, false, false, false, false, false] rfl rfl (by kernel_rfl) (fun _ _ _ h => h) (Or.inl ⟨by rfl, ?_⟩) ?_ ?_
        rotate_left
        · intro w'
          go_simp
          with_reducible rfl
        rotate_left
        · simp only [Act.put, List.setIfInBounds_toArray, List.set_cons_zero, List.set_cons_succ, i64_w, i32_w]
          rfl
        refine pure_ (i := 4) (N := some 86) (v := ?_) (a' := ?_) #[false, true, true, true, true, false, false, false, false, false, false, false, false, false] rfl rfl (by kernel_rfl) (fun _ _ _ h => h) (Or.inl ⟨by rfl, ?_⟩) ?_ ?_
        rotate_left
        · intro w'
          go_simp
          with_reducible rfl
        rotate_left
        · simp only [Act.put, List.setIfInBounds_toArray, List.set_cons_zero, List.set_cons_succ, i64_w, i32_w]
          rfl
        refine pure_ (i := 6) (N := some 88) (v := ?_) (a' := ?_) #[false, true, true, true, true, false, true, false, false, false, false, false, false, false] rfl rfl (by kernel_rfl) (fun _ _ _ h => h) (Or.inl ⟨by rfl, ?_⟩) ?_ ?_
        rotate_left
        · intro w'
          go_simp
          with_reducible rfl
        rotate_left
        · simp only [Act.put, List.setIfInBounds_toArray, List.set_cons_zero, List.set_cons_succ, i64_w, i32_w]
          rfl
        refine pure_ (i := 7) (N := some 89) (v := ?_) (a' := ?_) #[false, true, true, true, true, false, true, true, false, false, false, false, false, false] rfl rfl (by kernel_rfl) (fun _ _ _ h => h) (Or.inl ⟨by rfl, ?_⟩) ?_ ?_
        rotate_left
        · intro w'
          go_simp
          with_reducible rfl
        rotate_left
        · simp only [Act.put, List.setIfInBounds_toArray, List.set_cons_zero, List.set_cons_succ, i64_w, i32_w]
          rfl
        refine pure_ (i := 8) (N := some 90) (v := ?_) (a' := ?_) #[false, true, true, true, true, false, true, true, true, false, false, false, false, false] rfl rfl (by kernel_rfl) (fun _ _ _ h => h) (Or.inl ⟨by rfl, ?_⟩) ?_ ?_
        rotate_left
        · intro w'
          go_simp
          with_reducible rfl
        rotate_left
        · simp only [Act.put, List.setIfInBounds_toArray, List.set_cons_zero, List.set_cons_succ, i64_w, i32_w]
          rfl
        refine pure_ (i := 9) (N := some 91) (v := ?_) (a' := ?_) #[false, true, true, true, true, false, true, true, true, true, false, false, false, false] rfl rfl (by kernel_rfl) (fun _ _ _ h => h) (Or.inl ⟨by rfl, ?_⟩) ?_ ?_
        rotate_left
        · intro w'
          go_simp
          with_reducible rfl
        rotate_left
        · simp only [Act.put, List.setIfInBounds_toArray, List.set_cons_zero, List.set_cons_succ, i64_w, i32_w]
          rfl
        refine take_ (i := 0) (N := some 82) (v := ?_) (a' := ?_) #[true, true, true, true, true, false, true, true, true, true, false, false, false, false] rfl rfl (by kernel_rfl) (fun _ _ _ h => h) (Or.inl ⟨by rfl, ?_⟩) hHeld ?_ ?_
        rotate_left
        · rintro w' ⟨s0, s1, s2, s3⟩
          go_simp
          with_reducible rfl
        rotate_left
        · simp only [Act.put, List.setIfInBounds_toArray, List.set_cons_zero, List.set_cons_succ, i64_w, i32_w]
          rfl
        refine take_ (i := 5) (N := some 87) (v := ?_) (a' := ?_) #[true, true, true, true, true, true, true, true, true, true, false, false, false, false] rfl rfl (by kernel_rfl) (fun _ _ _ h => h) (Or.inl ⟨by rfl, ?_⟩) hHeld ?_ ?_
        rotate_left
        · rintro w' ⟨s0, s1, s2, s3⟩
          go_simp
          with_reducible rfl
        rotate_left
        · simp only [Act.put, List.setIfInBounds_toArray, List.set_cons_zero, List.set_cons_succ, i64_w, i32_w]
          rfl
        refine take_ (i := 10) (N := some 92) (v := ?_) (a' := ?_) #[true, true, true, true, true, true, true, true, true, true, true, false, false, false] rfl rfl (by kernel_rfl) (fun _ _ _ h => h) (Or.inl ⟨by rfl, ?_⟩) hHeld ?_ ?_
        rotate_left
        · rintro w' ⟨s0, s1, s2, s3⟩
          go_simp
          with_reducible rfl
        rotate_left
        · simp only [Act.put, List.setIfInBounds_toArray, List.set_cons_zero, List.set_cons_succ, i64_w, i32_w]
          rfl
        refine one_ (i := 11) (N := some 93) #[true, true, true, true, true, true, true, true, true, true, true, true, false, false] rfl rfl (by kernel_rfl) (by decide) (fun K hK => ?_)
        refine goes_ Try.func21 (by kernel_rfl) rfl #[.slice A1 m1 c1, .bool false] (by rfl) rfl rfl (by simp only [List.map_toArray, List.map_cons, List.map_nil]; rfl) ?_
        with_reducible refine (sumR false A1 m1 c1 l _ (hrV.below (Below.refl _ _).drew) h64 (by omega)).mono ?_
        rintro e W2 ⟨_, rfl, ⟨n6, A6, c6, d6, rfl, hr6, l6, m6, hx6⟩, hB2⟩
        refine ⟨_, rfl, ?_⟩
        have P2 : Below V.heap.size V W2 := (Below.refl _ V).drew.trans hB2
        have z2 : V.heap.size ≤ W2.heap.size := P2.size
        have V6 : R2.Num W2 (.agg #[.bool n6, .slice A6 d6.length c6]) (sumI l false m1) := ⟨n6, A6, c6, d6, rfl, hr6, l6, m6, hx6⟩
        have V5 : R2.Num W2 (.agg #[.bool n5, .slice A5 d5.length c5]) s := ⟨n5, A5, c5, d5, rfl, hr5.below P2, l5, m5, hx5⟩
        refine hK.out _ _ ⟨((P2.cell (p := ⟨w.heap.size + 1, 0, none⟩) hz).trans f0), ((P2.cell (p := ⟨w.heap.size + 1, 1, none⟩) hz).trans f1), (pw_cell_below P2 y0), (pw_cell_below P2 y1)⟩ (fun hHeld => ?_)
        clear hK K
        refine norm_ (a' := ?_) ?_ ?_
        rotate_left
        · show Act.put _ (some 93) _ = _
          simp only [Act.put, List.setIfInBounds_toArray, List.set_cons_zero, List.set_cons_succ, i64_w, i32_w]
          rfl
        refine one_ (i := 12) (N := some 94) #[true, true, true, true, true, true, true, true, true, true, true, true, true, false] rfl rfl (by kernel_rfl) (by decide) (fun K hK => ?_)
        refine goes_ Try.func16 (by kernel_rfl) rfl #[.agg #[.bool n5, .slice A5 d5.length c5], .agg #[.bool n6, .slice A6 d6.length c6]] (by rfl) rfl rfl (by simp only [List.map_toArray, List.map_cons, List.map_nil]; rfl) ?_
        with_reducible refine (F3.plus _ _ s (sumI l false m1) _ V5 V6 o1.out.1 o1.out.2 o2.out.1 o2.out.2).mono ?_
        rintro e W3 ⟨n7, A7, c7, d7, rfl, hr7, l7, m7, hx7, hA7, hB3⟩
        refine ⟨_, rfl, ?_⟩
        have P3 : Below V.heap.size V W3 := P2.trans (hB3.mono z2)
        refine hK.out _ _ ⟨((P3.cell (p := ⟨w.heap.size + 1, 0, none⟩) hz).trans f0), ((P3.cell (p := ⟨w.heap.size + 1, 1, none⟩) hz).trans f1), (pw_cell_below P3 y0), (pw_cell_below P3 y1)⟩ (fun hHeld => ?_)
        clear hK K
        refine norm_ (a' := ?_) ?_ ?_
        rotate_left
        · show Act.put _ (some 94) _ = _
          simp only [Act.put, List.setIfInBounds_toArray, List.set_cons_zero, List.set_cons_succ, i64_w, i32_w]
          rfl
        refine last_ (i := 13) (N := none) #[true, true, true, true, true, true, true, true, true, true, true, true, true, true] rfl rfl (by kernel_rfl) (by decide) (fun K hK => ?_)
        have z3 := P3.size
        have e5' : W3.heap[w.heap.size + 1]? = some (.cells #[.bool n5, .slice A5 d5.length c5] 29 (0, 0)) := (P3.block _ hz).trans E5.out
        have j0 : W3.cell? ⟨w.heap.size + 1, 0, none⟩ = some (.bool n5) := (blk_cell e5' 0).trans rfl
        have j1 : W3.cell? ⟨w.heap.size + 1, 1, none⟩ = some (.slice A5 d5.length c5) := (blk_cell e5' 1).trans rfl
        have j2 := blk_frozen e5'
        have J5 := Lib.hid e5'
        clear e5'
        refine skip_ (w1 := ?_) (by rfl) rfl ?_ ?_
        rotate_left
        · go_simp
          rfl
        refine hK.out _ _ ?_
        clear hK K
        refine done_ (by kernel_rfl) ?_

        have T3 : Tot W3 w.heap.size (s + sumI l false m1) (n + m1) := T1.out.below P3
        have hF : FBox ((W3.setCell ⟨w.heap.size + 1, 0, none⟩ (.bool n7)).setCell ⟨w.heap.size + 1, 1, none⟩ (.slice A7 d7.length c7)) (w.heap.size + 1) w.heap.size (s + sumI l false m1) :=
          fbox_set J5.out hr7 l7 m7 hx7 (fun a e => by have := hA7 a e; omega)
        have hT : Tot ((W3.setCell ⟨w.heap.size + 1, 0, none⟩ (.bool n7)).setCell ⟨w.heap.size + 1, 1, none⟩ (.slice A7 d7.length c7)) w.heap.size (s + sumI l false m1) (n + m1) := blk_far (blk_far T3 (by simp) _) (by simp) _
        have PB : Below w.heap.size w ((W3.setCell ⟨w.heap.size + 1, 0, none⟩ (.bool n7)).setCell ⟨w.heap.size + 1, 1, none⟩ (.slice A7 d7.length c7)) := ((belV.trans (P3.mono (by omega))).setCell (by simp) _).setCell (by simp) _
        clear T3 j0 j1 j2 f0 f1 y0 y1
        generalize (W3.setCell ⟨w.heap.size + 1, 0, none⟩ (.bool n7)).setCell ⟨w.heap.size + 1, 1, none⟩ (.slice A7 d7.length c7) = X at *
        have sb : -((k + 1 : Nat) * 184467440737095516160 : Int) ≤ s + sumI l false m1 ∧ s + sumI l false m1 ≤ (k + 1 : Nat) * 184467440737095516160 := by push_cast; omega
        have nb : -((k + 1 : Nat) * 20 : Int) ≤ n + m1 ∧ n + m1 ≤ (k + 1 : Nat) * 20 := by push_cast; omega
        generalize s + sumI l false m1 = s2 at *
        generalize n + (m1 : Int) = n2 at *
        have o3 := Lib.hid (s_ok sb.1 sb.2 (by omega))
        go_wp2_with fail
        (with_reducible refine (C3.sum w.heap.size s2 _ _ hT (by omega) (by omega)).mono ?_)
        rintro e X1 ⟨rfl, hB6⟩
        have PB1 := PB.trans (hB6.mono PB.size)
        have hT1 := hT.below hB6
        have hF1 := hF.below hB6
        clear hT hF hB6 PB
        obtain ⟨n8, A8, c8, d8, e8, hr8, l8, m8, hx8, hA8⟩ := hF1
        have g0 : X1.cell? ⟨w.heap.size + 1, 0, none⟩ = some (.bool n8) := (blk_cell e8 0).trans rfl
        have g1 : X1.cell? ⟨w.heap.size + 1, 1, none⟩ = some (.slice A8 d8.length c8) := (blk_cell e8 1).trans rfl
        have V8 : R2.Num X1 (.agg #[.bool n8, .slice A8 d8.length c8]) s2 := ⟨n8, A8, c8, d8, rfl, hr8, l8, m8, hx8⟩
        have E8 := Lib.hid e8
        clear e8
        have T8 := Lib.hid hT1
        clear hT1
        go_wp2_with fail
        (with_reducible refine (told _ s2 _ V8 o3.out).mono ?_)
        rintro e X2 ⟨rfl, hB7⟩
        have T9 := T8.out.below hB7
        go_wp2_with fail
        (with_reducible refine (C3.count w.heap.size s2 _ _ T9).mono ?_)
        rintro e X3 ⟨rfl, rfl⟩
        have hE0 : TSt w X2 s2 n2 (k + 1) := ⟨T9, ⟨n8, A8, c8, d8, (hB7.block _ (blk_lt E8.out)).trans E8.out, hr8.below hB7, l8, m8, hx8, hA8⟩, PB1.trans (hB7.mono PB1.size), sb.1, sb.2, nb.1, nb.2⟩
        have hE := Lib.hid hE0
        clear hE0 hHeld g0 g1 T9 sb nb bd s0 s1 n0 n1 V8 hx8 hx7 hx5
        go_wp2
        go_roundw
        case rel => exact ⟨k + 1, s2, _, by go_num, by omega, by first | rfl | go_num, hE.out⟩
        case measure => simp [intOf] <;> omega
    · obtain rfl : k = m := by omega
      clear tot box
      go_wp2_with fail
      (with_reducible refine (sum_nil _).mono ?_)
      rintro e V ⟨rfl, rfl⟩
      go_wp2_with fail
      (with_reducible refine (count_nil _).mono ?_)
      rintro e V ⟨rfl, rfl⟩
      go_wp2_with fail
      (with_reducible refine (awake _).mono ?_)
      rintro e V ⟨rfl, hB⟩
      go_wp2
      go_ret
      exact ⟨rfl, bel.trans (hB.mono bel.size)⟩
end Go.Proofs.Ytmipifokpogpbaa.L4
