import Derived.Test.YtmipifokpogpbaaC2
set_option linter.unusedSimpArgs false
set_option linter.unusedVariables false
namespace Go.Proofs.Ytmipifokpogpbaa.C3
open Go.RowKit Go.Proofs.YtmipifokpogpbaaW.PrintWords Go.Proofs.YtmipifokpogpbaaW.PrintLast Go.Proofs.Ytmipifokpogpbaa.C1 Go.Proofs.Ytmipifokpogpbaa.C2

/-- A Total at block g: the sum, how many there are. -/
def Tot (w : World) (g : Nat) (s n : Int) : Prop := w.heap[g]? = some (.cells #[.int .u64 (hiV s), .int .u64 (loV s), .int .i64 n] 41 (0, 0))
theorem Tot.c0 {w : World} {g : Nat} {s n : Int} (h : Tot w g s n) : w.cell? ⟨g, 0, none⟩ = some (.int .u64 (hiV s)) := (blk_cell h 0).trans rfl
theorem Tot.c1 {w : World} {g : Nat} {s n : Int} (h : Tot w g s n) : w.cell? ⟨g, 1, none⟩ = some (.int .u64 (loV s)) := (blk_cell h 1).trans rfl
theorem Tot.c2 {w : World} {g : Nat} {s n : Int} (h : Tot w g s n) : w.cell? ⟨g, 2, none⟩ = some (.int .i64 n) := (blk_cell h 2).trans rfl
theorem Tot.fr {w : World} {g : Nat} {s n : Int} (h : Tot w g s n) : ∀ o, w.frozen? ⟨g, o, none⟩ = false := blk_frozen h
theorem Tot.lt {w : World} {g : Nat} {s n : Int} (h : Tot w g s n) : g < w.heap.size := blk_lt h
theorem Tot.below {w w' : World} {g : Nat} {s n : Int} (h : Tot w g s n) (hb : Below w.heap.size w w') : Tot w' g s n := (hb.block _ h.lt).trans h
theorem Tot.set {w : World} {g : Nat} {s n : Int} (h : Tot w g s n) (t : Int) : Tot ((w.setCell ⟨g, 0, none⟩ (.int .u64 (hiV t))).setCell ⟨g, 1, none⟩ (.int .u64 (loV t))) g t n := blk_put (blk_put h 0 _ rfl) 1 _ rfl
theorem Tot.setn {w : World} {g : Nat} {s n : Int} (h : Tot w g s n) (m : Int) : Tot (w.setCell ⟨g, 2, none⟩ (.int .i64 m)) g s m := blk_put h 2 _ rfl
theorem Tot.reads {w : World} {g : Nat} {s n : Int} (h : Tot w g s n) {A : Option Addr} {m : Nat} {l : List Int} (hr : ReadsInt w .i64 A m l) (u v : Value) : ReadsInt ((w.setCell ⟨g, 0, none⟩ u).setCell ⟨g, 1, none⟩ v) .i64 A m l :=
  reads_set (u := .int .u64 (loV s)) (reads_set (u := .int .u64 (hiV s)) hr _ h.c0 (fun q e => by cases e)) _ ((World.cell?_setCell_other _ _ _ _ (by simp)).trans h.c1) (fun q e => by cases e)
/-- What Put and Take leave. -/
def PutR (w : World) (g : Nat) (s n : Int) (e : Ending) (w' : World) : Prop := e = .returned (.tuple #[]) ∧ Tot w' g s n ∧ Keep1 g w w'

set_option maxHeartbeats 2000000 in
theorem put (g : Nat) (A : Option Addr) (m c : Nat) (l : List Int) (s n : Int) (w : World) (hr : ReadsInt w .i64 A m l) (h64 : In64 l) (hT : Tot w g s n) (n0 : -1000000000000000 ≤ n) (n1 : n ≤ 1000000000000000) (hm : m ≤ 1000000000000000) :
    Calls Try.prog 20 #[.pointer (some ⟨g, 0, none⟩), .slice A m c] w (PutR w g (s + sumI l false m) (n + m)) := by
  have hl := Lib.hid hr.1
  go_enter Try.func20, Try.ntmps20
  go_wp2
  go_loopw [10] (fun i wr => ∃ k : Nat, i = .int .i64 k ∧ k ≤ m ∧ Tot wr g (s + sumI l false k) n ∧ ReadsInt wr .i64 A m l ∧ Keep1 g w wr) (fun i _ => m - (intOf i).toNat)
  case atStart => exact ⟨0, rfl, by omega, by simpa [sumI] using hT, hr, Keep1.refl _ _⟩
  case round =>
    clear hr hT
    obtain ⟨k, rfl, hk, hT, hr, hK⟩ := hrel
    have f0 := hT.c0
    have f1 := hT.c1
    have f3 := hT.fr
    by_cases hlt : k < m
    · obtain ⟨ad, rfl, hcx⟩ := hr.at_ k (by omega) (by omega)
      rw [Int.toNat_natCast] at hcx
      have q0 : (0 : Int) ≤ (k : Int) := by omega
      have q1 : (k : Int) < (m : Int) := by omega
      obtain ⟨x0, x1⟩ := h64.get k (by have := hl.out; omega)
      have hT := Lib.hid hT
      clear f3
      go_wp2
      refine start_ (n := 11) (S := fun w' => w'.cell? ⟨g, 0, none⟩ = some (.int .u64 (hiV (s + sumI l false k))) ∧ w'.cell? ⟨g, 1, none⟩ = some (.int .u64 (loV (s + sumI l false k)))) (ds := [10]) #[false, false, false, false, false, false, false, false, false, false, false] (by kernel_rfl) rfl rfl ⟨f0, f1⟩ (fun hHeld => ?_)
      refine pure_ (i := 0) (N := some 14) (v := ?_) (a' := ?_) #[true, false, false, false, false, false, false, false, false, false, false] rfl rfl (by kernel_rfl) (fun _ _ _ h => h) (Or.inl ⟨by rfl, ?_⟩) ?_ ?_
      rotate_left
      · intro w'
        go_simp
        with_reducible rfl
      rotate_left
      · simp only [Act.put, List.setIfInBounds_toArray, List.set_cons_zero, List.set_cons_succ, i64_w, i32_w]
        rfl
      refine pure_ (i := 1) (N := some 15) (v := ?_) (a' := ?_) #[true, true, false, false, false, false, false, false, false, false, false] rfl rfl (by kernel_rfl) (fun _ _ _ h => h) (Or.inl ⟨by rfl, ?_⟩) ?_ ?_
      rotate_left
      · intro w'
        go_simp
        with_reducible rfl
      rotate_left
      · simp only [Act.put, List.setIfInBounds_toArray, List.set_cons_zero, List.set_cons_succ, i64_w, i32_w]
        rfl
      refine pure_ (i := 2) (N := some 16) (v := ?_) (a' := ?_) #[true, true, true, false, false, false, false, false, false, false, false] rfl rfl (by kernel_rfl) (fun _ _ _ h => h) (Or.inl ⟨by rfl, ?_⟩) ?_ ?_
      rotate_left
      · intro w'
        go_simp
        with_reducible rfl
      rotate_left
      · simp only [Act.put, List.setIfInBounds_toArray, List.set_cons_zero, List.set_cons_succ, i64_w, i32_w]
        rfl
      refine pure_ (i := 3) (N := some 17) (v := ?_) (a' := ?_) #[true, true, true, true, false, false, false, false, false, false, false] rfl rfl (by kernel_rfl) (fun _ _ _ h => h) (Or.inl ⟨by rfl, ?_⟩) ?_ ?_
      rotate_left
      · intro w'
        go_simp
        with_reducible rfl
      rotate_left
      · simp only [Act.put, List.setIfInBounds_toArray, List.set_cons_zero, List.set_cons_succ, i64_w, i32_w]
        rfl
      refine pure_ (i := 5) (N := some 19) (v := ?_) (a' := ?_) #[true, true, true, true, false, true, false, false, false, false, false] rfl rfl (by kernel_rfl) (fun _ _ _ h => h) (Or.inl ⟨by rfl, ?_⟩) ?_ ?_
      rotate_left
      · intro w'
        go_simp
        with_reducible rfl
      rotate_left
      · simp only [Act.put, List.setIfInBounds_toArray, List.set_cons_zero, List.set_cons_succ, i64_w, i32_w]
        rfl
      refine take_ (i := 4) (N := some 18) (v := ?_) (a' := ?_) #[true, true, true, true, true, true, false, false, false, false, false] rfl rfl (by kernel_rfl) (fun _ _ _ h => h) (Or.inl ⟨by rfl, ?_⟩) hHeld ?_ ?_
      rotate_left
      · rintro w' ⟨s0, s1⟩
        go_simp
        with_reducible rfl
      rotate_left
      · simp only [Act.put, List.setIfInBounds_toArray, List.set_cons_zero, List.set_cons_succ, i64_w, i32_w]
        rfl
      refine one_ (i := 6) (N := some 20) #[true, true, true, true, true, true, true, false, false, false, false] rfl rfl (by kernel_rfl) (by decide) (fun K hK => ?_)
      refine goes_ Try.func42 (by kernel_rfl) rfl #[.int .i64 (rd l k)] (by rfl) rfl rfl (by simp only [List.map_toArray, List.map_cons, List.map_nil]; rfl) ?_
      with_reducible refine (of_ (rd l k) _ x0 x1).mono ?_
      rintro e W1 ⟨rfl, hB1⟩
      refine ⟨_, rfl, ?_⟩
      have P1 : Below wr.heap.size wr W1 := (Below.refl _ wr).drew.trans hB1
      refine hK.out _ _ ⟨(pw_cell_below P1 f0), (pw_cell_below P1 f1)⟩ (fun hHeld => ?_)
      clear hK K
      refine norm_ (a' := ?_) ?_ ?_
      rotate_left
      · show Act.put _ (some 20) _ = _
        simp only [Act.put, List.setIfInBounds_toArray, List.set_cons_zero, List.set_cons_succ, i64_w, i32_w]
        rfl
      refine one_ (i := 7) (N := some 21) #[true, true, true, true, true, true, true, true, false, false, false] rfl rfl (by kernel_rfl) (by decide) (fun K hK => ?_)
      refine goes_ Try.func43 (by kernel_rfl) rfl #[.agg #[.int .u64 (hiV (s + sumI l false k)), .int .u64 (loV (s + sumI l false k))], .agg #[.int .u64 (hiV (rd l k)), .int .u64 (loV (rd l k))]] (by rfl) rfl rfl (by simp only [List.map_toArray, List.map_cons, List.map_nil]; rfl) ?_
      with_reducible refine (plus (s + sumI l false k) (rd l k) _).mono ?_
      rintro e W2 ⟨rfl, hB2⟩
      refine ⟨_, rfl, ?_⟩
      have P2 : Below wr.heap.size wr W2 := P1.trans (hB2.mono P1.size)
      refine hK.out _ _ ⟨(pw_cell_below P2 f0), (pw_cell_below P2 f1)⟩ (fun hHeld => ?_)
      clear hK K
      refine norm_ (a' := ?_) ?_ ?_
      rotate_left
      · show Act.put _ (some 21) _ = _
        simp only [Act.put, List.setIfInBounds_toArray, List.set_cons_zero, List.set_cons_succ, i64_w, i32_w]
        rfl
      refine pure_ (i := 8) (N := some 22) (v := ?_) (a' := ?_) #[true, true, true, true, true, true, true, true, true, false, false] rfl rfl (by kernel_rfl) (fun _ _ _ h => h) (Or.inl ⟨by rfl, ?_⟩) ?_ ?_
      rotate_left
      · intro w'
        go_simp
        with_reducible rfl
      rotate_left
      · simp only [Act.put, List.setIfInBounds_toArray, List.set_cons_zero, List.set_cons_succ, i64_w, i32_w]
        rfl
      refine pure_ (i := 9) (N := some 23) (v := ?_) (a' := ?_) #[true, true, true, true, true, true, true, true, true, true, false] rfl rfl (by kernel_rfl) (fun _ _ _ h => h) (Or.inl ⟨by rfl, ?_⟩) ?_ ?_
      rotate_left
      · intro w'
        go_simp
        with_reducible rfl
      rotate_left
      · simp only [Act.put, List.setIfInBounds_toArray, List.set_cons_zero, List.set_cons_succ, i64_w, i32_w]
        rfl
      refine last_ (i := 10) (N := none) #[true, true, true, true, true, true, true, true, true, true, true] rfl rfl (by kernel_rfl) (by decide) (fun K hK => ?_)
      have T2 := hT.out.below P2
      have j0 := T2.c0
      have j1 := T2.c1
      have j2 := T2.fr
      have J2 := Lib.hid T2
      clear T2
      refine skip_ (w1 := ?_) (by rfl) rfl ?_ ?_
      rotate_left
      · go_simp
        rfl
      refine hK.out _ _ ?_
      clear hK K
      refine done_ (by kernel_rfl) ?_
      have hF : Tot ((W2.setCell ⟨g, 0, none⟩ (.int .u64 (hiV ((s + sumI l false k) + rd l k)))).setCell ⟨g, 1, none⟩ (.int .u64 (loV ((s + sumI l false k) + rd l k)))) g (s + sumI l false (k + 1)) n := by
        have e : s + sumI l false (k + 1) = (s + sumI l false k) + rd l k := by simp only [sumI, sgnI]; simp; omega
        rw [e]; exact J2.out.set _
      have hR2 := J2.out.reads (hr.below P2) (.int .u64 (hiV ((s + sumI l false k) + rd l k))) (.int .u64 (loV ((s + sumI l false k) + rd l k)))
      have hK2 := ((hK.trans (Keep1.below P2)).set_ 0 (.int .u64 (hiV ((s + sumI l false k) + rd l k)))).set_ 1 (.int .u64 (loV ((s + sumI l false k) + rd l k)))
      clear j0 j1 j2 f0 f1
      go_wp2
      go_roundw
      case rel => exact ⟨k + 1, by go_num, by omega, hF, hR2, hK2⟩
      case measure => simp [intOf] <;> omega
    · obtain rfl : k = m := by omega
      have f2 := hT.c2
      have HT := Lib.hid hT
      clear hT
      go_wp2
      go_returns
      exact ⟨rfl, HT.out.setn _, hK.set_ 2 _⟩

set_option maxHeartbeats 400000 in
theorem put_nil (A : Option Addr) (m c : Nat) (w : World) : Calls Try.prog 20 #[.pointer none, .slice A m c] w fun e w' => e = .returned (.tuple #[]) ∧ w = w' := by
  go_enter Try.func20, Try.ntmps20
  go_wp2
  go_returns
  exact ⟨rfl, rfl⟩

set_option maxHeartbeats 2000000 in
theorem take (g : Nat) (A : Option Addr) (m c : Nat) (l : List Int) (s n : Int) (w : World) (hr : ReadsInt w .i64 A m l) (h64 : In64 l) (hT : Tot w g s n) (n0 : -1000000000000000 ≤ n) (n1 : n ≤ 1000000000000000) (hm : m ≤ 1000000000000000) :
    Calls Try.prog 19 #[.pointer (some ⟨g, 0, none⟩), .slice A m c] w (PutR w g (s + sumI l true m) (n - m)) := by
  have hl := Lib.hid hr.1
  go_enter Try.func19, Try.ntmps19
  go_wp2
  go_loopw [10] (fun i wr => ∃ k : Nat, i = .int .i64 k ∧ k ≤ m ∧ Tot wr g (s + sumI l true k) n ∧ ReadsInt wr .i64 A m l ∧ Keep1 g w wr) (fun i _ => m - (intOf i).toNat)
  case atStart => exact ⟨0, rfl, by omega, by simpa [sumI] using hT, hr, Keep1.refl _ _⟩
  case round =>
    clear hr hT
    obtain ⟨k, rfl, hk, hT, hr, hK⟩ := hrel
    have f0 := hT.c0
    have f1 := hT.c1
    have f3 := hT.fr
    by_cases hlt : k < m
    · obtain ⟨ad, rfl, hcx⟩ := hr.at_ k (by omega) (by omega)
      rw [Int.toNat_natCast] at hcx
      have q0 : (0 : Int) ≤ (k : Int) := by omega
      have q1 : (k : Int) < (m : Int) := by omega
      obtain ⟨x0, x1⟩ := h64.get k (by have := hl.out; omega)
      have hT := Lib.hid hT
      clear f3
      go_wp2
      refine start_ (n := 11) (S := fun w' => w'.cell? ⟨g, 0, none⟩ = some (.int .u64 (hiV (s + sumI l true k))) ∧ w'.cell? ⟨g, 1, none⟩ = some (.int .u64 (loV (s + sumI l true k)))) (ds := [10]) #[false, false, false, false, false, false, false, false, false, false, false] (by kernel_rfl) rfl rfl ⟨f0, f1⟩ (fun hHeld => ?_)
      refine pure_ (i := 0) (N := some 14) (v := ?_) (a' := ?_) #[true, false, false, false, false, false, false, false, false, false, false] rfl rfl (by kernel_rfl) (fun _ _ _ h => h) (Or.inl ⟨by rfl, ?_⟩) ?_ ?_
      rotate_left
      · intro w'
        go_simp
        with_reducible rfl
      rotate_left
      · simp only [Act.put, List.setIfInBounds_toArray, List.set_cons_zero, List.set_cons_succ, i64_w, i32_w]
        rfl
      refine pure_ (i := 1) (N := some 15) (v := ?_) (a' := ?_) #[true, true, false, false, false, false, false, false, false, false, false] rfl rfl (by kernel_rfl) (fun _ _ _ h => h) (Or.inl ⟨by rfl, ?_⟩) ?_ ?_
      rotate_left
      · intro w'
        go_simp
        with_reducible rfl
      rotate_left
      · simp only [Act.put, List.setIfInBounds_toArray, List.set_cons_zero, List.set_cons_succ, i64_w, i32_w]
        rfl
      refine pure_ (i := 2) (N := some 16) (v := ?_) (a' := ?_) #[true, true, true, false, false, false, false, false, false, false, false] rfl rfl (by kernel_rfl) (fun _ _ _ h => h) (Or.inl ⟨by rfl, ?_⟩) ?_ ?_
      rotate_left
      · intro w'
        go_simp
        with_reducible rfl
      rotate_left
      · simp only [Act.put, List.setIfInBounds_toArray, List.set_cons_zero, List.set_cons_succ, i64_w, i32_w]
        rfl
      refine pure_ (i := 3) (N := some 17) (v := ?_) (a' := ?_) #[true, true, true, true, false, false, false, false, false, false, false] rfl rfl (by kernel_rfl) (fun _ _ _ h => h) (Or.inl ⟨by rfl, ?_⟩) ?_ ?_
      rotate_left
      · intro w'
        go_simp
        with_reducible rfl
      rotate_left
      · simp only [Act.put, List.setIfInBounds_toArray, List.set_cons_zero, List.set_cons_succ, i64_w, i32_w]
        rfl
      refine pure_ (i := 5) (N := some 19) (v := ?_) (a' := ?_) #[true, true, true, true, false, true, false, false, false, false, false] rfl rfl (by kernel_rfl) (fun _ _ _ h => h) (Or.inl ⟨by rfl, ?_⟩) ?_ ?_
      rotate_left
      · intro w'
        go_simp
        with_reducible rfl
      rotate_left
      · simp only [Act.put, List.setIfInBounds_toArray, List.set_cons_zero, List.set_cons_succ, i64_w, i32_w]
        rfl
      refine take_ (i := 4) (N := some 18) (v := ?_) (a' := ?_) #[true, true, true, true, true, true, false, false, false, false, false] rfl rfl (by kernel_rfl) (fun _ _ _ h => h) (Or.inl ⟨by rfl, ?_⟩) hHeld ?_ ?_
      rotate_left
      · rintro w' ⟨s0, s1⟩
        go_simp
        with_reducible rfl
      rotate_left
      · simp only [Act.put, List.setIfInBounds_toArray, List.set_cons_zero, List.set_cons_succ, i64_w, i32_w]
        rfl
      refine one_ (i := 6) (N := some 20) #[true, true, true, true, true, true, true, false, false, false, false] rfl rfl (by kernel_rfl) (by decide) (fun K hK => ?_)
      refine goes_ Try.func42 (by kernel_rfl) rfl #[.int .i64 (rd l k)] (by rfl) rfl rfl (by simp only [List.map_toArray, List.map_cons, List.map_nil]; rfl) ?_
      with_reducible refine (of_ (rd l k) _ x0 x1).mono ?_
      rintro e W1 ⟨rfl, hB1⟩
      refine ⟨_, rfl, ?_⟩
      have P1 : Below wr.heap.size wr W1 := (Below.refl _ wr).drew.trans hB1
      refine hK.out _ _ ⟨(pw_cell_below P1 f0), (pw_cell_below P1 f1)⟩ (fun hHeld => ?_)
      clear hK K
      refine norm_ (a' := ?_) ?_ ?_
      rotate_left
      · show Act.put _ (some 20) _ = _
        simp only [Act.put, List.setIfInBounds_toArray, List.set_cons_zero, List.set_cons_succ, i64_w, i32_w]
        rfl
      refine one_ (i := 7) (N := some 21) #[true, true, true, true, true, true, true, true, false, false, false] rfl rfl (by kernel_rfl) (by decide) (fun K hK => ?_)
      refine goes_ Try.func41 (by kernel_rfl) rfl #[.agg #[.int .u64 (hiV (s + sumI l true k)), .int .u64 (loV (s + sumI l true k))], .agg #[.int .u64 (hiV (rd l k)), .int .u64 (loV (rd l k))]] (by rfl) rfl rfl (by simp only [List.map_toArray, List.map_cons, List.map_nil]; rfl) ?_
      with_reducible refine (minus (s + sumI l true k) (rd l k) _).mono ?_
      rintro e W2 ⟨rfl, hB2⟩
      refine ⟨_, rfl, ?_⟩
      have P2 : Below wr.heap.size wr W2 := P1.trans (hB2.mono P1.size)
      refine hK.out _ _ ⟨(pw_cell_below P2 f0), (pw_cell_below P2 f1)⟩ (fun hHeld => ?_)
      clear hK K
      refine norm_ (a' := ?_) ?_ ?_
      rotate_left
      · show Act.put _ (some 21) _ = _
        simp only [Act.put, List.setIfInBounds_toArray, List.set_cons_zero, List.set_cons_succ, i64_w, i32_w]
        rfl
      refine pure_ (i := 8) (N := some 22) (v := ?_) (a' := ?_) #[true, true, true, true, true, true, true, true, true, false, false] rfl rfl (by kernel_rfl) (fun _ _ _ h => h) (Or.inl ⟨by rfl, ?_⟩) ?_ ?_
      rotate_left
      · intro w'
        go_simp
        with_reducible rfl
      rotate_left
      · simp only [Act.put, List.setIfInBounds_toArray, List.set_cons_zero, List.set_cons_succ, i64_w, i32_w]
        rfl
      refine pure_ (i := 9) (N := some 23) (v := ?_) (a' := ?_) #[true, true, true, true, true, true, true, true, true, true, false] rfl rfl (by kernel_rfl) (fun _ _ _ h => h) (Or.inl ⟨by rfl, ?_⟩) ?_ ?_
      rotate_left
      · intro w'
        go_simp
        with_reducible rfl
      rotate_left
      · simp only [Act.put, List.setIfInBounds_toArray, List.set_cons_zero, List.set_cons_succ, i64_w, i32_w]
        rfl
      refine last_ (i := 10) (N := none) #[true, true, true, true, true, true, true, true, true, true, true] rfl rfl (by kernel_rfl) (by decide) (fun K hK => ?_)
      have T2 := hT.out.below P2
      have j0 := T2.c0
      have j1 := T2.c1
      have j2 := T2.fr
      have J2 := Lib.hid T2
      clear T2
      refine skip_ (w1 := ?_) (by rfl) rfl ?_ ?_
      rotate_left
      · go_simp
        rfl
      refine hK.out _ _ ?_
      clear hK K
      refine done_ (by kernel_rfl) ?_
      have hF : Tot ((W2.setCell ⟨g, 0, none⟩ (.int .u64 (hiV ((s + sumI l true k) - rd l k)))).setCell ⟨g, 1, none⟩ (.int .u64 (loV ((s + sumI l true k) - rd l k)))) g (s + sumI l true (k + 1)) n := by
        have e : s + sumI l true (k + 1) = (s + sumI l true k) - rd l k := by simp only [sumI, sgnI]; simp; omega
        rw [e]; exact J2.out.set _
      have hR2 := J2.out.reads (hr.below P2) (.int .u64 (hiV ((s + sumI l true k) - rd l k))) (.int .u64 (loV ((s + sumI l true k) - rd l k)))
      have hK2 := ((hK.trans (Keep1.below P2)).set_ 0 (.int .u64 (hiV ((s + sumI l true k) - rd l k)))).set_ 1 (.int .u64 (loV ((s + sumI l true k) - rd l k)))
      clear j0 j1 j2 f0 f1
      go_wp2
      go_roundw
      case rel => exact ⟨k + 1, by go_num, by omega, hF, hR2, hK2⟩
      case measure => simp [intOf] <;> omega
    · obtain rfl : k = m := by omega
      have f2 := hT.c2
      have HT := Lib.hid hT
      clear hT
      go_wp2
      go_returns
      exact ⟨rfl, HT.out.setn _, hK.set_ 2 _⟩

set_option maxHeartbeats 400000 in
theorem take_nil (A : Option Addr) (m c : Nat) (w : World) : Calls Try.prog 19 #[.pointer none, .slice A m c] w fun e w' => e = .returned (.tuple #[]) ∧ w = w' := by
  go_enter Try.func19, Try.ntmps19
  go_wp2
  go_returns
  exact ⟨rfl, rfl⟩

set_option maxHeartbeats 400000 in
theorem sum (g : Nat) (s n : Int) (w : World) (hT : Tot w g s n) (h1 : -170141183460469231731687303715884105728 ≤ s) (h2 : s < 170141183460469231731687303715884105728) :
    Calls Try.prog 22 #[.pointer (some ⟨g, 0, none⟩)] w fun e w' => e = .returned (.tuple #[.int .i64 (smV s), .int .i64 (erV s)]) ∧ Below w.heap.size w w' := by
  have f0 := hT.c0
  have f1 := hT.c1
  clear hT
  go_enter Try.func22, Try.ntmps22
  go_wp2_with (go_at_call 44; (with_reducible refine (short s _ h1 h2).mono ?_); rintro e w' ⟨rfl, hB⟩)
  go_ret2
  exact ⟨rfl, hB⟩
set_option maxHeartbeats 400000 in
theorem sum_nil (w : World) : Calls Try.prog 22 #[.pointer none] w fun e w' => e = .returned (.tuple #[.int .i64 0, .int .i64 0]) ∧ w = w' := by
  go_enter Try.func22, Try.ntmps22
  go_wp2
  go_ret2
  exact ⟨rfl, rfl⟩
set_option maxHeartbeats 400000 in
theorem count (g : Nat) (s n : Int) (w : World) (hT : Tot w g s n) : Calls Try.prog 23 #[.pointer (some ⟨g, 0, none⟩)] w fun e w' => e = .returned (.int .i64 n) ∧ w = w' := by
  have f2 := hT.c2
  clear hT
  go_enter Try.func23, Try.ntmps23
  go_wp2
  go_ret
  exact ⟨rfl, rfl⟩
set_option maxHeartbeats 400000 in
theorem count_nil (w : World) : Calls Try.prog 23 #[.pointer none] w fun e w' => e = .returned (.int .i64 0) ∧ w = w' := by
  go_enter Try.func23, Try.ntmps23
  go_wp2
  go_ret
  exact ⟨rfl, rfl⟩

theorem tot_new (w : World) : Tot (w.alloc (.cells #[.int .u64 0, .int .u64 0, .int .i64 0] 41)) w.heap.size 0 0 := get_new _ _ _ rfl
/-- What a function over numbers answers: a number, or that it is beyond. -/
def NumA (w : World) (x : Int) (e : Ending) (w' : World) : Prop := e = .returned (.tuple #[.int .i64 (smV x), .int .i64 (erV x)]) ∧ Below w.heap.size w w'

set_option maxHeartbeats 400000 in
theorem add (A : Option Addr) (m c : Nat) (l : List Int) (w : World) (hr : ReadsInt w .i64 A m l) (h64 : In64 l) (hm : m ≤ 1000000000000) :
    Calls Try.prog 26 #[.slice A m c] w (NumA w (sumI l false m)) := by
  have hl := Lib.hid hr.1
  have hbd := sumI_bd h64 false m (by have := hl.out; omega)
  have hT := Lib.hid (tot_new w)
  go_enter Try.func26, Try.ntmps26
  go_wp2_with fail
  (with_reducible refine (put w.heap.size A m c l 0 0 _ (hr.below (by go_grown)) h64 hT.out (by omega) (by omega) (by omega)).mono ?_)
  rintro e W1 ⟨rfl, hT1, hK⟩
  rw [show (0 : Int) + sumI l false m = sumI l false m by omega] at hT1
  have P1 : Below w.heap.size w W1 := Below.trans (by go_grown) (hK.to_below (Nat.le_refl _) (by simp <;> omega))
  have z1 := P1.size
  go_wp2_with fail
  (with_reducible refine (sum w.heap.size (sumI l false m) _ _ hT1 (by omega) (by omega)).mono ?_)
  rintro e W2 ⟨rfl, hB2⟩
  go_wp2
  go_ret2
  exact ⟨rfl, P1.trans (hB2.mono z1)⟩

theorem sumI_one (a : Int) : sumI [a] false 1 = a := by simp [sumI, sgnI, rd]
theorem rd_one (w : World) (a : Int) (w0 : Nat) (h : w.heap[w0]? = some (.cells #[.int .i64 a] 2 (0, 0))) : ReadsInt w .i64 (some ⟨w0, 0, none⟩) 1 [a] := by
  refine ⟨rfl, by omega, fun _ => ⟨_, rfl, fun i hi => ?_⟩⟩
  obtain rfl : i = 0 := by omega
  exact (blk_cell h 0).trans rfl
theorem in_one {a : Int} (h1 : -9223372036854775808 ≤ a) (h2 : a ≤ 9223372036854775807) : In64 [a] := fun x hx => by rw [List.mem_singleton.1 hx]; exact ⟨h1, h2⟩

set_option maxHeartbeats 400000 in
theorem sub (a : Int) (A : Option Addr) (m c : Nat) (l : List Int) (w : World) (hr : ReadsInt w .i64 A m l) (h64 : In64 l) (hm : m ≤ 1000000000000) (a1 : -9223372036854775808 ≤ a) (a2 : a ≤ 9223372036854775807) :
    Calls Try.prog 28 #[.int .i64 a, .slice A m c] w (NumA w (a + sumI l true m)) := by
  have hl := Lib.hid hr.1
  have hbd := sumI_bd h64 true m (by have := hl.out; omega)
  have hT := Lib.hid (tot_new w)
  go_enter Try.func28, Try.ntmps28
  go_wp2_with fail
  have hT0 : Tot ((w.alloc (.cells #[.int .u64 0, .int .u64 0, .int .i64 0] 41)).alloc (.cells #[.int .i64 a] 2)) w.heap.size 0 0 := hT.out.below (by go_grown)
  have hra := rd_one ((w.alloc (.cells #[.int .u64 0, .int .u64 0, .int .i64 0] 41)).alloc (.cells #[.int .i64 a] 2)) a (w.heap.size + 1) (get_new _ _ _ (by simp))
  (with_reducible refine (put w.heap.size (some ⟨w.heap.size + 1, 0, none⟩) 1 1 [a] 0 0 _ hra (in_one a1 a2) hT0 (by omega) (by omega) (by omega)).mono ?_)
  rintro e W1 ⟨rfl, hT1, hK⟩
  rw [sumI_one, show (0 : Int) + a = a by omega] at hT1
  have P1 : Below w.heap.size w W1 := Below.trans (by go_grown) (hK.to_below (Nat.le_refl _) (by simp <;> omega))
  have z1 := P1.size
  clear hT0 hra
  go_wp2_with fail
  (with_reducible refine (take w.heap.size A m c l a _ _ (hr.below P1) h64 hT1 (by omega) (by omega) (by omega)).mono ?_)
  rintro e W2 ⟨rfl, hT2, hK2⟩
  have P2 : Below w.heap.size w W2 := P1.trans (hK2.to_below (Nat.le_refl _) z1)
  have z2 := P2.size
  go_wp2_with fail
  (with_reducible refine (sum w.heap.size (a + sumI l true m) _ _ hT2 (by omega) (by omega)).mono ?_)
  rintro e W3 ⟨rfl, hB3⟩
  go_wp2
  go_ret2
  exact ⟨rfl, P2.trans (hB3.mono z2)⟩

theorem sumI_neg (a : Int) : 0 + sumI [a] true 1 = -a := by simp [sumI, sgnI, rd]
set_option maxHeartbeats 400000 in
theorem neg (a : Int) (w : World) (a1 : -9223372036854775808 ≤ a) (a2 : a ≤ 9223372036854775807) :
    Calls Try.prog 29 #[.int .i64 a] w (NumA w (-a)) := by
  have hra := rd_one (w.alloc (.cells #[.int .i64 a] 2)) a w.heap.size (get_new _ _ _ rfl)
  go_enter Try.func29, Try.ntmps29
  go_wp2_with fail
  (with_reducible refine (sub 0 (some ⟨w.heap.size, 0, none⟩) 1 1 [a] _ hra (in_one a1 a2) (by omega) (by omega) (by omega)).mono ?_)
  rintro e W1 ⟨rfl, hB⟩
  rw [sumI_neg]
  have P1 : Below w.heap.size w W1 := Below.trans (by go_grown) (hB.mono (by simp))
  go_wp2
  go_ret2
  exact ⟨rfl, P1⟩
end Go.Proofs.Ytmipifokpogpbaa.C3
