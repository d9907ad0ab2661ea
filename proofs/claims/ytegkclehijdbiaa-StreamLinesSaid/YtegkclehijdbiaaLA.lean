import Derived.Test.YtegkclehijdbiaaCR
import Derived.Test.YtegkclehijdbiaaW6
set_option linter.unusedSimpArgs false
set_option linter.unusedVariables false
namespace Go.Proofs.Ytegkclehijdbiaa.LA
open Go.RowKit Go.Proofs.YtegkclehijdbiaaW.PrintWords Go.Proofs.Ytegkclehijdbiaa.V1 Go.Proofs.Ytegkclehijdbiaa.V2 Go.Proofs.Ytegkclehijdbiaa.V3 Go.Proofs.Ytegkclehijdbiaa.VD Go.Proofs.Ytegkclehijdbiaa.CA Go.Proofs.Ytegkclehijdbiaa.CE Go.Proofs.Ytegkclehijdbiaa.CF Go.Proofs.Ytegkclehijdbiaa.CG Go.Proofs.Ytegkclehijdbiaa.CR Go.Proofs.Ytegkclehijdbiaa.V8 Go.Proofs.Ytegkclehijdbiaa.V6 Go.Proofs.Ytegkclehijdbiaa.W1 Go.Proofs.Ytegkclehijdbiaa.W2 Go.Proofs.Ytegkclehijdbiaa.W6
open Go.Proofs.YtegkclehijdbiaaW.PrintLast hiding takeB

/-- Values that hang on the blocks B .. E alone. -/
def DepV (w : World) (B E : Nat) (A : Option Addr) (n : Nat) (l : List Vl) : Prop := ∀ w' : World, (∀ b, B ≤ b → b < E → w'.heap[b]? = w.heap[b]?) → RdV w' A n l
theorem DepV.rd {w : World} {B E n : Nat} {A : Option Addr} {l : List Vl} (h : DepV w B E A n l) : RdV w A n l := h w (fun _ _ _ => rfl)
theorem own_move {w w1 : World} {base size n : Nat} {e : TypeId} {v : Value} {xs : List Value} (h : w.ownsRow base e size v n xs) (hm : ∀ k, v.ownBlock = some k → w1.heap[k]? = w.heap[k]?) : w1.ownsRow base e size v n xs :=
  ⟨h.1, h.2.imp id fun ⟨b, cap, cur, e1, e2, e3, r⟩ => ⟨b, cap, cur, e1, e2, (hm b (by rw [e1]; simp [Value.ownBlock])).trans e3, r⟩⟩
theorem rdV_news {w : World} {g o n : Nat} {l : List Vl} (h : RdV w (some ⟨g, o, none⟩) n l) : ∀ j u, (l.flatMap cV)[j]? = some u → w.cell? ((⟨g, o, none⟩ : Addr).add j) = some u := by
  refine flat_all cV 3 (by omega) cV_len l _ fun i j u hi hj hu => ?_
  rw [h.1] at hi
  obtain ⟨g', o', e, ⟨c0, c1, c2, _⟩, _⟩ := h.at_ hi
  injection e with e
  injection e with e1 e2
  subst e1 e2
  rw [V1.add_at, ← Nat.add_assoc]
  rcases (show j = 0 ∨ j = 1 ∨ j = 2 by omega) with rfl | rfl | rfl
  · simp [cV] at hu; rw [← hu]; exact c0
  · simp [cV] at hu; rw [← hu]; exact c1
  · simp [cV] at hu; rw [← hu]; exact c2
/-- A copy of values. -/
def ClV (w : World) (n : Nat) (l : List Vl) (e : Ending) (w' : World) : Prop := ∃ B d, e = .returned (.slice B n d) ∧ DepV w' w.heap.size w'.heap.size B n l ∧ n ≤ d ∧ d ≤ 9223372036854775807 ∧ (∀ ad, B = some ad → w.heap.size ≤ ad.block) ∧ Below w.heap.size w w'
set_option maxRecDepth 20000 in
set_option maxHeartbeats 1000000 in
theorem clone102 (A : Option Addr) (n c : Nat) (l : List Vl) (w : World) (hc : RdV w A n l) (hn : n ≤ 1000000) : Calls Try.prog 102 #[.slice A n c] w (ClV w n l) := by
  cases A with
  | none =>
    have h0 : n = 0 := by
      rcases Nat.eq_zero_or_pos n with h | h
      · exact h
      · obtain ⟨g, o, e, _⟩ := hc.2.2 h; cases e
    subst h0
    obtain rfl : l = [] := List.eq_nil_of_length_eq_zero hc.1
    have hE := Lib.run_eql_slice_nil (P := Try.prog) w 48 56 none 0 c 0 0 (by kernel_rfl)
    go_enter Try.func102, Try.ntmps102
    go_wp2
    go_ret
    exact ⟨none, 0, rfl, fun _ _ => rdV_nil _ _, by omega, by omega, (fun _ h => by cases h), Below.refl _ _⟩
  | some a =>
    obtain ⟨i0, hi, hzz⟩ := Option.map_eq_some_iff.1 CE.info56
    simp only [Prod.mk.injEq] at hzz
    obtain ⟨hz0, hz1, hz2⟩ := hzz
    have hE := Lib.run_eql_slice_nil (P := Try.prog) w 48 56 (some a) n c 0 0 (by kernel_rfl)
    have P0 : Below w.heap.size w (w.alloc (.cells #[] 56)) := by go_grown
    have hcX := rdV_below hc P0
    have hown : (w.alloc (.cells #[] 56)).ownsRow w.heap.size 56 3 (.slice (some ⟨w.heap.size, 0, none⟩) 0 0) 0 [] :=
      ⟨by simp, .inr ⟨w.heap.size, 0, #[], rfl, Nat.le_refl _, get_new _ _ _ rfl, Nat.le_refl _, by simp [maxLen], by simp, by simp⟩⟩
    have hlen := Lib.hid hc.1
    have hnews : ∀ j u, (l.flatMap cV)[j]? = some u → (w.alloc (.cells #[] 56)).cell? (a.add j) = some u := by
      rcases Nat.eq_zero_or_pos n with h | h
      · have e : l = [] := List.eq_nil_of_length_eq_zero (by rw [hc.1]; exact h)
        subst e; intro j u hu; simp at hu
      · obtain ⟨g, o, e, _⟩ := hcX.2.2 h
        injection e with e; subst e
        exact rdV_news hcX
    have hnews := Lib.hid hnews
    have hfit := Lib.hid (W5.fits_mem hc)
    go_enter Try.func102, Try.ntmps102
    go_wp2_with (at_builtin; refine wpList_append_own_at (w.alloc (.cells #[] 56)) rfl (.tmp 5) (.tmp 6) 48 rfl w.heap.size 56 i0 (.agg #[.int .i64 0, .int .i64 0, .string ⟨#[]⟩]) 3 32 Try.underlying48 hi hz0 hz1 hz2 rfl (by omega) (.slice (some ⟨w.heap.size, 0, none⟩) 0 0) 0 [] rfl hown a n c (l.flatMap cV) rfl (by rw [flat_len cV 3 cV_len, hlen.out]) hnews.out (by intro u hu; simp only [List.mem_flatMap, cV, List.mem_cons, List.not_mem_nil, or_false] at hu; obtain ⟨x, _, rfl | rfl | rfl⟩ := hu <;> rfl) (by simp only [maxLen]; omega) (by omega) (by simp) ?_; intro v1 w1 hown1 hg1 _ _)
    go_ret
    have hB := P0.grown hg1 (by simp) (own_base hown)
    rw [Nat.zero_add, List.nil_append] at hown1
    rcases hown1.2 with ⟨rfl, h0⟩ | ⟨g', cap, cur, rfl, hbg, hcur, h1, h2, _⟩
    · subst h0
      obtain rfl : l = [] := List.eq_nil_of_length_eq_zero hlen.out
      exact ⟨none, 0, rfl, fun _ _ => rdV_nil _ _, by omega, by omega, (fun _ h => by cases h), hB⟩
    · refine ⟨_, cap, rfl, fun w' hk => ?_, h1, h2, (fun ad e => by cases e; exact hbg), hB⟩
      refine rdV_own (own_move hown1 (fun k e => ?_)) hlen.out (by omega) hfit.out
      have e : g' = k := by simpa [Value.ownBlock] using e
      subst e
      exact hk _ hbg (blk_lt hcur)
theorem Dep.wide {w : World} {B E B' E' n : Nat} {A : Option Addr} {ls : List (List Vl)} (h : Dep w B E A n ls) (hB : B' ≤ B) (hE : E ≤ E') : Dep w B' E' A n ls := fun w' hk => h w' (fun b h0 h1 => hk b (by omega) (by omega))
/-- A copy of a batch. -/
def CpB (w : World) (id : Int) (ls : List (List Vl)) (e : Ending) (w' : World) : Prop := ∃ A n c, e = .returned (.agg #[.int .i64 id, .slice A n c]) ∧ Dep w' w.heap.size w'.heap.size A n ls ∧ n ≤ c ∧ c ≤ 9223372036854775807 ∧ Below w.heap.size w w'
def CpL (w Z : World) (b2 b3 : Nat) (id : Int) (ls : List (List Vl)) (n kq : Nat) (i : Value) (wr : World) : Prop := ∃ (k : Nat) (v7 : Value) (acc : List (Value × List Vl)), i = .int .i64 (k : Int) ∧ k ≤ n ∧ kq = n - k ∧ wr.heap[b3]? = some (.cells #[.int .i64 id, v7] 38 (0, 0)) ∧ wr.heap[b2]? = some (.cells #[.int .i64 0, .slice none 0 0] 38 (0, 0)) ∧ wr.ownsRow Z.heap.size 48 1 v7 k (acc.map Prod.fst) ∧ (∀ p ∈ acc, Slot wr Z.heap.size v7 p.1 p.2) ∧ acc.map Prod.snd = ls.take k ∧ acc.length = k ∧ Below w.heap.size w wr ∧ Z.heap.size ≤ wr.heap.size
set_option maxRecDepth 20000 in
set_option maxHeartbeats 4000000 in
theorem copied91 (id : Int) (A : Option Addr) (n c : Nat) (ls : List (List Vl)) (w : World) (hr : RdR w A n ls) (hn : n ≤ 1000000) (hrow : ∀ r ∈ ls, r.length ≤ 1000000) : Calls Try.prog 91 #[.agg #[.int .i64 id, .slice A n c]] w (CpB w id ls) := by
  have P1 : Below w.heap.size w (w.alloc (.cells #[.int .i64 id, .slice A n c] 38)) := by go_grown
  have s1 : (w.alloc (.cells #[.int .i64 id, .slice A n c] 38)).heap.size = w.heap.size + 1 := W4.alloc_sz _ _
  have a1 : (w.alloc (.cells #[.int .i64 id, .slice A n c] 38)).heap[w.heap.size]? = some (.cells #[.int .i64 id, .slice A n c] 38 (0, 0)) := heap_alloc_new w _
  have P2 : Below (w.alloc (.cells #[.int .i64 id, .slice A n c] 38)).heap.size (w.alloc (.cells #[.int .i64 id, .slice A n c] 38)) ((w.alloc (.cells #[.int .i64 id, .slice A n c] 38)).alloc (.cells #[.int .i64 0, .slice none 0 0] 38)) := by go_grown
  have s2 : ((w.alloc (.cells #[.int .i64 id, .slice A n c] 38)).alloc (.cells #[.int .i64 0, .slice none 0 0] 38)).heap.size = w.heap.size + 2 := by rw [W4.alloc_sz, s1]
  have a2 : ((w.alloc (.cells #[.int .i64 id, .slice A n c] 38)).alloc (.cells #[.int .i64 0, .slice none 0 0] 38)).heap[w.heap.size + 1]? = some (.cells #[.int .i64 0, .slice none 0 0] 38 (0, 0)) := by
    have := heap_alloc_new (w.alloc (.cells #[.int .i64 id, .slice A n c] 38)) (.cells #[.int .i64 0, .slice none 0 0] 38)
    rwa [s1] at this
  have a12 := (P2.block _ (by rw [s1]; omega)).trans a1
  have hP2 := P1.trans (P2.mono P1.size)
  have e0 : ((w.alloc (.cells #[.int .i64 id, .slice A n c] 38)).alloc (.cells #[.int .i64 0, .slice none 0 0] 38)).cell? ⟨w.heap.size, 0, none⟩ = some (.int .i64 id) := (blk_cell a12 0).trans rfl
  have e1 : ((w.alloc (.cells #[.int .i64 id, .slice A n c] 38)).alloc (.cells #[.int .i64 0, .slice none 0 0] 38)).cell? ⟨w.heap.size, 1, none⟩ = some (.slice A n c) := (blk_cell a12 1).trans rfl
  replace a2 := Lib.hid a2
  clear a1 a12 P1 P2
  replace hr := Lib.hid hr
  replace hrow := Lib.hid hrow
  go_enter Try.func91, Try.ntmps91
  go_upto_region 1 with fail
  generalize (w.alloc (.cells #[.int .i64 id, .slice A n c] 38)).alloc (.cells #[.int .i64 0, .slice none 0 0] 38) = Y at *
  have P3 : Below Y.heap.size Y (Y.alloc (.cells #[.int .i64 id, .slice none 0 0] 38)) := by go_grown
  have a3 : Hid ((Y.alloc (.cells #[.int .i64 id, .slice none 0 0] 38)).heap[Y.heap.size]? = some (.cells #[.int .i64 id, .slice none 0 0] 38 (0, 0))) := heap_alloc_new Y _
  have a23 := Lib.hid ((P3.block _ (by omega)).trans a2.out)
  have hP3 := hP2.trans (P3.mono hP2.size)
  have z0 := pw_cell_below P3 e0
  have z1 := pw_cell_below P3 e1
  have hZsz : (Y.alloc (.cells #[.int .i64 id, .slice none 0 0] 38)).heap.size = w.heap.size + 3 := by rw [W4.alloc_sz, s2]
  go_upto_region 2 with fail
  clear e0 e1 P3
  rw [s2] at *
  generalize Y.alloc (.cells #[.int .i64 id, .slice none 0 0] 38) = Z at *
  clear s1 a2 hP2
  go_wp2
  clear z0 z1
  go_loopg [12] n (fun kq i wr => CpL w Z (w.heap.size + 1) (w.heap.size + 2) id ls n kq i wr)
  case atStart => exact ⟨0, .slice none 0 0, [], rfl, by omega, by omega, a3.out, a23.out, CF.own_nil _ _ _ _, (fun p hp => by cases hp), by simp, rfl, hP3, Nat.le_refl _⟩
  case round =>
    obtain ⟨k, v7, acc, rfl, hk, rfl, hb3, hb2, hown, hsl, hacc, hal, hB, hZw⟩ := hrel
    replace hb3 := Lib.hid hb3
    replace hb2 := Lib.hid hb2
    replace hown := Lib.hid hown
    replace hsl := Lib.hid hsl
    replace hacc := Lib.hid hacc
    replace hZw := Lib.hid hZw
    by_cases hlt : k < n
    · obtain ⟨b, o, rfl, ⟨A1, n1, c1, x0, hrv, hx1, hx2⟩, q2⟩ := (rdR_below hr.out hB).at_ hlt
      have q0 : (0 : Int) ≤ (k : Int) := by omega
      have q1 : (k : Int) < (n : Int) := by omega
      rw [Nat.mul_one] at x0 q2
      have hlen := hrv.1
      have hin : el ls k ∈ ls := by
        have hkl : k < ls.length := by rw [hr.out.1]; exact hlt
        have : el ls k = ls[k] := by simp [el, List.getD, hkl]
        rw [this]; exact List.getElem_mem _
      have hn1 : n1 ≤ 1000000 := by have := hrow.out _ hin; omega
      have hCl := Lib.hid (fun W (hW : Below wr.heap.size wr W) => clone102 A1 n1 c1 (el ls k) W (rdV_below hrv hW) hn1)
      have hst : Hid (ls.take (k + 1) = ls.take k ++ [el ls k]) := by
        have hkl : k < ls.length := by rw [hr.out.1]; exact hlt
        show _ = _
        rw [List.take_succ_eq_append_getElem hkl]
        simp [el, List.getD, hkl]
      generalize el ls k = row at *
      clear hrv hin hlen
      go_upto_region 5 with fail
      clear x0
      generalize hbn : w.heap.size + 2 = b3 at *
      have f1 : wr.cell? ⟨b3, 1, none⟩ = some v7 := (blk_cell hb3.out 1).trans rfl
      have hbl3 : Hid (b3 < Z.heap.size) := by show _ < _; omega
      refine start_ (n := 8) (S := fun w' => w'.cell? ⟨b3, 1, none⟩ = some v7) (ds := [7]) #[false, false, false, false, false, false, false, false] (by kernel_rfl) rfl rfl (f1) (fun hHeld => ?_)
      refine pure_ (i := 0) (N := some 16) (v := ?_) (a' := ?_) #[true, false, false, false, false, false, false, false] rfl rfl (by kernel_rfl) (fun _ _ _ h => h) (Or.inl ⟨by rfl, ?_⟩) ?_ ?_
      rotate_left
      · intro w'
        go_simp
        with_reducible rfl
      rotate_left
      · simp only [Act.put, List.setIfInBounds_toArray, List.set_cons_zero, List.set_cons_succ, i64_w, i32_w]
        rfl
      refine pure_ (i := 2) (N := some 18) (v := ?_) (a' := ?_) #[true, false, true, false, false, false, false, false] rfl rfl (by kernel_rfl) (fun _ _ _ h => h) (Or.inl ⟨by rfl, ?_⟩) ?_ ?_
      rotate_left
      · intro w'
        go_simp
        with_reducible rfl
      rotate_left
      · simp only [Act.put, List.setIfInBounds_toArray, List.set_cons_zero, List.set_cons_succ, i64_w, i32_w]
        rfl
      refine take_ (i := 1) (N := some 17) (v := ?_) (a' := ?_) #[true, true, true, false, false, false, false, false] rfl rfl (by kernel_rfl) (fun _ _ _ h => h) (Or.inl ⟨by rfl, ?_⟩) hHeld ?_ ?_
      rotate_left
      · intro w' s0
        go_simp
        with_reducible rfl
      rotate_left
      · simp only [Act.put, List.setIfInBounds_toArray, List.set_cons_zero, List.set_cons_succ, i64_w, i32_w]
        rfl
      refine one_ (i := 3) (N := some 19) #[true, true, true, true, false, false, false, false] rfl rfl (by kernel_rfl) (by decide) (fun K hK => ?_)
      refine goes_ Try.func102 (by kernel_rfl) rfl #[.slice A1 n1 c1] (by rfl) rfl rfl (by simp only [List.map_toArray, List.map_cons, List.map_nil]; rfl) ?_
      with_reducible refine (hCl.out _ ((Below.refl wr.heap.size wr).drew)).mono ?_
      rintro e U1 ⟨A2, c2, rfl, hdv, hd1, hd2, hdA, hBU⟩
      refine ⟨_, rfl, ?_⟩
      have hBUs : wr.heap.size ≤ U1.heap.size := hBU.size
      refine hK.out _ _ ((pw_cell_below hBU f1)) (fun hHeld => ?_)
      clear hK K
      refine norm_ (a' := ?_) ?_ ?_
      rotate_left
      · show Act.put _ (some 19) _ = _
        simp only [Act.put, List.setIfInBounds_toArray, List.set_cons_zero, List.set_cons_succ, i64_w, i32_w]
        rfl
      refine one_ (i := 4) (N := some 20) #[true, true, true, true, true, false, false, false] rfl rfl (by kernel_rfl) (by decide) (fun K hK => ?_)
      refine value_ (w1 := ?_) (v := ?_) (by rfl) rfl ?_ ?_
      rotate_left 2
      · go_simp
        constructor
        · rfl
        · rfl
      have PA : Below U1.heap.size U1 (U1.alloc (.cells #[.slice A2 n1 c2] 48)) := by go_grown
      refine hK.out _ _ ((pw_cell_below PA (pw_cell_below hBU f1))) (fun hHeld => ?_)
      clear hK K
      refine norm_ (a' := ?_) ?_ ?_
      rotate_left
      · show Act.put _ (some 20) _ = _
        simp only [Act.put, List.setIfInBounds_toArray, List.set_cons_zero, List.set_cons_succ, i64_w, i32_w]
        rfl
      refine one_ (i := 5) (N := some 21) #[true, true, true, true, true, true, false, false] rfl rfl (by kernel_rfl) (by decide) (fun K hK => ?_)
      have hBUA : Below wr.heap.size wr (U1.alloc (.cells #[.slice A2 n1 c2] 48)) := (Below.refl wr.heap.size wr).drew.trans (hBU.trans (PA.mono hBU.size))
      have hownA : (U1.alloc (.cells #[.slice A2 n1 c2] 48)).ownsRow Z.heap.size 48 1 v7 k (acc.map Prod.fst) := own_move hown.out (fun k hk => hBUA.block k (own_lt hown.out k hk))
      have hownU : U1.ownsRow Z.heap.size 48 1 v7 k (acc.map Prod.fst) := own_move hown.out (fun k hk => ((Below.refl wr.heap.size wr).drew.trans hBU).block k (own_lt hown.out k hk))
      refine step_append_cells (w0 := U1) Z.heap.size (by rfl) (.tmp 17) (.tmp 20) 36 48 (.slice none 0 0) 1 24 rfl Try.underlying36 CG.info48 rfl (by omega) (by omega) v7 k (acc.map Prod.fst) [.slice A2 n1 c2] rfl rfl rfl (by intro u hu; simp only [List.mem_cons, List.not_mem_nil, or_false] at hu; rcases hu with rfl; rfl) hownU (Below.refl _ _) (Nat.le_trans hZw.out hBUs) (by omega) ?_
      intro v1 w1 hown1 _ hg1 hob
      obtain ⟨A7, m7, c7, rfl, hm7, hc7, hc8⟩ := own_form hown1
      subst hm7
      have e3 : w1.heap[b3]? = some (.cells #[.int .i64 id, v7] 38 (0, 0)) := (hg1.block b3 (by have := hbl3.out; have := hZw.out; omega) (fun e => own_ne hown.out hb3.out (by decide) e.symm)).trans ((hBU.block b3 (by show b3 < wr.heap.size; have := hbl3.out; have := hZw.out; omega)).trans hb3.out)
      refine hK.out _ _ ((show w1.cell? ⟨b3, 1, none⟩ = some v7 from (blk_cell e3 1).trans rfl)) (fun hHeld => ?_)
      clear hK K
      refine norm_ (a' := ?_) ?_ ?_
      rotate_left
      · show Act.put _ (some 21) _ = _
        simp only [Act.put, List.setIfInBounds_toArray, List.set_cons_zero, List.set_cons_succ, i64_w, i32_w]
        rfl
      refine pure_ (i := 6) (N := some 22) (v := ?_) (a' := ?_) #[true, true, true, true, true, true, true, false] rfl rfl (by kernel_rfl) (fun _ _ _ h => h) (Or.inl ⟨by rfl, ?_⟩) ?_ ?_
      rotate_left
      · intro w'
        go_simp
        with_reducible rfl
      rotate_left
      · simp only [Act.put, List.setIfInBounds_toArray, List.set_cons_zero, List.set_cons_succ, i64_w, i32_w]
        rfl
      refine last_ (i := 7) (N := none) #[true, true, true, true, true, true, true, true] rfl rfl (by kernel_rfl) (by decide) (fun K hK => ?_)
      have q3 := blk_frozen e3
      have g1 : w1.cell? ⟨b3, 1, none⟩ = some v7 := (blk_cell e3 1).trans rfl
      refine skip_ (w1 := ?_) (by rfl) rfl ?_ ?_
      rotate_left
      · go_simp
        rfl
      refine hK.out _ _ ?_
      clear hK K
      refine done_ (by kernel_rfl) ?_
      have hvb3 : v7.ownBlock ≠ some b3 := own_ne hown.out hb3.out (by decide)
      have hol : ∀ q, v7.ownBlock = some q → q < wr.heap.size := fun q e => own_lt hown.out q e
      have hkeep : ∀ b, b < wr.heap.size → v7.ownBlock ≠ some b → w1.heap[b]? = wr.heap[b]? := fun b hb ho => (hg1.block b (by omega) (fun e => ho e.symm)).trans (hBU.block b hb)
      have hsz1 : wr.heap.size ≤ w1.heap.size := Nat.le_trans hBUs hg1.size
      have hbz := hbl3.out
      have hzz := hZw.out
      have hvb1 : (Value.slice A7 (k + 1) c7).ownBlock ≠ some b3 := by
        rcases hob with h | ⟨b, h, hb⟩
        · rw [h]; exact hvb3
        · rw [h]; intro e; injection e with e; omega
      have hb2w : w1.heap[w.heap.size + 1]? = some (.cells #[.int .i64 0, .slice none 0 0] 38 (0, 0)) := (hkeep _ (blk_lt hb2.out) (own_ne hown.out hb2.out (by decide))).trans hb2.out
      have hBw1 : Below w.heap.size w w1 := (hB.trans (((Below.refl wr.heap.size wr).drew.trans hBU).mono hB.size)).grown hg1 (Nat.le_trans hB.size hBUs) (fun q e => by have := own_base hown.out q e; omega)
      replace hb2w := Lib.hid hb2w
      replace e3 := Lib.hid e3
      replace hown1 := Lib.hid hown1
      go_wp2
      go_roundg (n - (k + 1))
      case measure => omega
      case rel =>
        refine ⟨k + 1, (.slice A7 (k + 1) c7), acc ++ [(.slice A2 n1 c2, row)], by congr 1, by omega, rfl, blk_put e3.out 1 _ rfl, blk_far hb2w.out (by show w.heap.size + 1 ≠ b3; omega) _, ?_, fun p hp => ?_, by rw [List.map_append, hacc.out, hst.out]; rfl, by simp [hal], hBw1.setCell (by show w.heap.size ≤ b3; omega) _, by simpa [World.setCell] using Nat.le_trans hzz hsz1⟩
        · have := own_set hown1.out hvb1 1 (.slice A7 (k + 1) c7)
          rw [List.map_append]
          exact this
        · rcases List.mem_append.1 hp with hp | hp
          · obtain ⟨A', n', c', e1, hr', x1, x2, x3⟩ := hsl.out p hp
            refine ⟨A', n', c', e1, rdV_heap hr' (fun hn ad e => ?_), x1, x2, fun hn ad e => ⟨(x3 hn ad e).1, ?_⟩⟩
            · have y1 := rdV_lt hr' hn ad e
              have y2 := x3 hn ad e
              exact (Below.heap_setCell w1 ⟨b3, 1, none⟩ _ ad.block (by show ad.block ≠ b3; omega)).trans (hkeep _ y1 y2.2)
            · have y1 := rdV_lt hr' hn ad e
              have y2 := x3 hn ad e
              rcases hob with h | ⟨b, h, hb⟩
              · rw [h]; exact y2.2
              · rw [h]; intro e; injection e with e; omega
          · obtain rfl := List.mem_singleton.1 hp
            have hdr := hdv.rd
            refine ⟨A2, n1, c2, rfl, hdv _ (fun b h0 h1 => ?_), hd1, hd2, fun hn ad e => ⟨by have : wr.heap.size ≤ ad.block := hdA ad e; omega, ?_⟩⟩
            · have h0 : wr.heap.size ≤ b := h0
              exact (Below.heap_setCell w1 ⟨b3, 1, none⟩ _ b (by show b ≠ b3; omega)).trans (hg1.block b h1 (fun e => by have := hol b e.symm; omega))
            · have y1 : ad.block < U1.heap.size := rdV_lt hdr hn ad e
              have y0 : wr.heap.size ≤ ad.block := hdA ad e
              rcases hob with h | ⟨b, h, hb⟩
              · rw [h]; intro e; have := hol _ e; omega
              · rw [h]; intro e; injection e with e; omega
    · obtain rfl : k = n := by omega
      obtain ⟨A7, c7, hv, hdep, h1, h2⟩ := dep_from (w := Z) (by rw [hal]; exact hown.out) hsl.out (by omega)
      rw [hal] at hv hdep h1
      subst hv
      have g0 : wr.cell? ⟨w.heap.size + 2, 0, none⟩ = some (.int .i64 id) := (blk_cell hb3.out 0).trans rfl
      have g1 : wr.cell? ⟨w.heap.size + 2, 1, none⟩ = some (.slice A7 k c7) := (blk_cell hb3.out 1).trans rfl
      have k0 : wr.cell? ⟨w.heap.size + 1, 0, none⟩ = some (.int .i64 0) := (blk_cell hb2.out 0).trans rfl
      have k1 : wr.cell? ⟨w.heap.size + 1, 1, none⟩ = some (.slice none 0 0) := (blk_cell hb2.out 1).trans rfl
      have q0 := blk_frozen hb2.out
      have hls : Hid (acc.map Prod.snd = ls) := by show _ = _; rw [hacc.out, List.take_of_length_le (by rw [hr.out.1]; exact Nat.le_refl _)]
      rw [hls.out] at hdep
      replace hdep := Lib.hid hdep
      have hzz := hZw.out
      go_wp2
      refine bodyPost_ret (results_cell_row rfl _ _ (w.heap.size + 1) 38 #[.int .i64 id, .slice A7 k c7] (0, 0) _ rfl (blk_put (blk_put hb2.out 0 _ rfl) 1 _ rfl) Try.underlying38 rfl (by kernel_rfl)) rfl ?_
      refine ⟨A7, k, c7, rfl, ?_, h1, h2, (hB.setCell (by show w.heap.size ≤ w.heap.size + 1; omega) _).setCell (by show w.heap.size ≤ w.heap.size + 1; omega) _⟩
      refine Dep.wide (B := Z.heap.size) (E := wr.heap.size) (hdep.out.move (fun b h0 h1 => ?_)) (by omega) (by simp [World.setCell])
      exact (Below.heap_setCell _ ⟨w.heap.size + 1, 1, none⟩ _ b (by show b ≠ w.heap.size + 1; omega)).trans (Below.heap_setCell _ ⟨w.heap.size + 1, 0, none⟩ _ b (by show b ≠ w.heap.size + 1; omega))
end Go.Proofs.Ytegkclehijdbiaa.LA
