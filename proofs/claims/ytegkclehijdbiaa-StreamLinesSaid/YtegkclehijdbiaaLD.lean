import Derived.Test.YtegkclehijdbiaaLC
set_option linter.unusedSimpArgs false
set_option linter.unusedVariables false
namespace Go.Proofs.Ytegkclehijdbiaa.LD
open Go.RowKit Go.Proofs.YtegkclehijdbiaaW.PrintWords Go.Proofs.Ytegkclehijdbiaa.V1 Go.Proofs.Ytegkclehijdbiaa.V2 Go.Proofs.Ytegkclehijdbiaa.V3 Go.Proofs.Ytegkclehijdbiaa.V8 Go.Proofs.Ytegkclehijdbiaa.VD Go.Proofs.Ytegkclehijdbiaa.CA Go.Proofs.Ytegkclehijdbiaa.CG Go.Proofs.Ytegkclehijdbiaa.CN Go.Proofs.Ytegkclehijdbiaa.CR Go.Proofs.Ytegkclehijdbiaa.RD Go.Proofs.Ytegkclehijdbiaa.LA Go.Proofs.Ytegkclehijdbiaa.LB Go.Proofs.Ytegkclehijdbiaa.LC Go.Proofs.Ytegkclehijdbiaa.SN Go.Proofs.Ytegkclehijdbiaa.W1 Go.Proofs.Ytegkclehijdbiaa.W2 Go.Proofs.Ytegkclehijdbiaa.W6
open Go.Proofs.YtegkclehijdbiaaW.PrintLast hiding takeB

/-- What Take leaves. -/
def TaR (wB w : World) (g : Nat) (nm : ByteArray) (C : Option Addr) (nc dc : Nat) (room : Int) (v : Value) (acc : List (Value × Bt)) (X : Nat → Prop) (e : Ending) (w' : World) : Prop :=
  (acc = [] ∧ e = .returned (.tuple #[noB, .bool false]) ∧ Below w.heap.size w w') ∨
  ∃ p t v' A n c, acc = p :: t ∧ e = .returned (.tuple #[.agg #[.int .i64 p.2.id, .slice A n c], .bool true]) ∧ Dep w' w.heap.size w'.heap.size A n p.2.rows ∧ n ≤ c ∧ c ≤ 9223372036854775807 ∧ Ln wB w' g nm C nc dc room v' t X ∧ KW g v.ownBlock w v'.ownBlock w'
theorem rowsN_le (bs : List Bt) (h : ∀ b ∈ bs, b.rows.length ≤ 32) : rowsN bs ≤ 32 * bs.length := by
  induction bs with
  | nil => simp [rowsN]
  | cons b t ih =>
    have h1 := h b (by simp)
    have h2 := ih (fun y hy => h y (by simp [hy]))
    simp only [rowsN, List.map_cons, List.sum_cons, List.length_cons] at h2 ⊢
    omega
set_option maxRecDepth 8000 in
set_option maxHeartbeats 2000000 in
theorem take56 {wB : World} (g : Nat) (nm : ByteArray) (C : Option Addr) (nc dc : Nat) (room : Int) (v : Value) (acc : List (Value × Bt)) (X : Nat → Prop) (w : World) (h : Ln wB w g nm C nc dc room v acc X) (hlen : acc.length ≤ 1000000) : Calls Try.prog 56 #[.pointer (some ⟨g, 0, none⟩)] w (TaR wB w g nm C nc dc room v acc X) := by
  obtain ⟨i0, hi, hzz⟩ := Option.map_eq_some_iff.1 info38
  simp only [Prod.mk.injEq] at hzz
  obtain ⟨hz0, hz1, hz2⟩ := hzz
  have P0 : Below w.heap.size w (w.alloc (.cells #[.int .i64 0, .slice none 0 0] 38)) := by go_grown
  have a0 : Hid ((w.alloc (.cells #[.int .i64 0, .slice none 0 0] 38)).heap[w.heap.size]? = some (.cells #[.int .i64 0, .slice none 0 0] 38 (0, 0))) := heap_alloc_new w _
  have hX := h.below P0
  have hgw : g < w.heap.size := blk_lt h.blk
  have hF := Lib.hid (first55 g nm C nc dc room v acc X _ hX)
  replace hX := Lib.hid hX
  go_enter Try.func56, Try.ntmps56
  go_upto_region 1 with fail
  have hsz : (w.alloc (.cells #[.int .i64 0, .slice none 0 0] 38)).heap.size = w.heap.size + 1 := W4.alloc_sz _ _
  generalize w.alloc (.cells #[.int .i64 0, .slice none 0 0] 38) = V at *
  go_wp2_with fail
  (with_reducible refine hF.out.mono ?_)
  rintro e W1 ⟨hB1, ⟨hnil, rfl⟩ | ⟨b, bt, A1, n1, c1, hcons, rfl, hdep, hd1, hd2⟩⟩
  · have hlt : w.heap.size < V.heap.size := blk_lt a0.out
    have a1 : Hid (W1.heap[w.heap.size]? = some (.cells #[.int .i64 0, .slice none 0 0] 38 (0, 0))) := (hB1.block _ hlt).trans a0.out
    have P1 := P0.trans (hB1.mono P0.size)
    have PY : Below W1.heap.size W1 (W1.alloc (.cells #[.int .i64 0, .slice none 0 0] 38)) := by go_grown
    have a2 : Hid ((W1.alloc (.cells #[.int .i64 0, .slice none 0 0] 38)).heap[w.heap.size]? = some (.cells #[.int .i64 0, .slice none 0 0] 38 (0, 0))) := (PY.block _ (blk_lt a1.out)).trans a1.out
    have b2 : Hid ((W1.alloc (.cells #[.int .i64 0, .slice none 0 0] 38)).heap[W1.heap.size]? = some (.cells #[.int .i64 0, .slice none 0 0] 38 (0, 0))) := heap_alloc_new W1 _
    have P2 := P1.trans (PY.mono P1.size)
    clear PY a0 a1 hlt hB1 P0 hX hF
    go_upto_region 2 with fail
    generalize hz : W1.heap.size = bk at *
    generalize W1.alloc (.cells #[.int .i64 0, .slice none 0 0] 38) = Y at *
    have g0 : Y.cell? ⟨w.heap.size, 0, none⟩ = some (.int .i64 0) := (blk_cell a2.out 0).trans rfl
    have g1 : Y.cell? ⟨w.heap.size, 1, none⟩ = some (.slice none 0 0) := (blk_cell a2.out 1).trans rfl
    have h0 : Y.cell? ⟨bk, 0, none⟩ = some (.int .i64 0) := (blk_cell b2.out 0).trans rfl
    have h1 : Y.cell? ⟨bk, 1, none⟩ = some (.slice none 0 0) := (blk_cell b2.out 1).trans rfl
    have q0 := blk_frozen a2.out
    go_wp2
    refine bodyPost_ret (results_ct rfl _ _ w.heap.size 38 #[.int .i64 0, .slice none 0 0] (0, 0) _ rfl (blk_put (blk_put a2.out 0 _ rfl) 1 _ rfl) Try.underlying38 rfl (by kernel_rfl)) rfl ?_
    exact .inl ⟨List.map_eq_nil_iff.1 hnil, rfl, (P2.setCell (Nat.le_refl _) _).setCell (Nat.le_refl _) _⟩
  · cases acc with
    | nil => cases hcons
    | cons p t =>
      injection hcons with hc1 hc2
      subst hc1 hc2
      have hL1 := hX.out.below hB1
      have PY : Below W1.heap.size W1 (W1.alloc (.cells #[.int .i64 p.2.id, .slice A1 n1 c1] 38)) := by go_grown
      have hLY := hL1.below PY
      have b4Y : (W1.alloc (.cells #[.int .i64 p.2.id, .slice A1 n1 c1] 38)).heap[W1.heap.size]? = some (.cells #[.int .i64 p.2.id, .slice A1 n1 c1] 38 (0, 0)) := heap_alloc_new W1 _
      have a2Y : (W1.alloc (.cells #[.int .i64 p.2.id, .slice A1 n1 c1] 38)).heap[w.heap.size]? = some (.cells #[.int .i64 0, .slice none 0 0] 38 (0, 0)) := (PY.block _ (by have := hB1.size; omega)).trans ((hB1.block _ (by omega)).trans a0.out)
      have hdY : Dep (W1.alloc (.cells #[.int .i64 p.2.id, .slice A1 n1 c1] 38)) V.heap.size W1.heap.size A1 n1 p.2.rows := hdep.move (fun k h0 h1 => PY.block k h1)
      have hsY : (W1.alloc (.cells #[.int .i64 p.2.id, .slice A1 n1 c1] 38)).heap.size = W1.heap.size + 1 := W4.alloc_sz _ _
      have hBY : Below w.heap.size w (W1.alloc (.cells #[.int .i64 p.2.id, .slice A1 n1 c1] 38)) := P0.trans ((hB1.trans (PY.mono hB1.size)).mono (by omega))
      have hVW : V.heap.size ≤ W1.heap.size := hB1.size
      have hrl : Hid (n1 = p.2.rows.length) := hdep.rd.1.symm
      clear PY hL1 hX hF hdep hB1 a0
      obtain ⟨A, c, rfl, hrd, hc1, hc2⟩ := hLY.rd
      have hn0 : 0 < (p :: t).length := by simp
      have hq := hLY.q
      obtain ⟨ad, rfl, _⟩ := q_cells hq hn0
      have hS := cut_from (P := Try.prog) 25 38 .i64 Try.underlying25 hi 2 hz1 (some ad) (p :: t).length c 1 (by omega) (by omega)
      have hqd := q_drop hq (k := 1) (by omega)
      rw [show (1 : Int).toNat = 1 from rfl] at hS
      have hown : ∀ m d : Nat, (Value.slice (if c = 1 then some ad else (some ad).map (·.add (1 * 2))) m d).ownBlock = (Value.slice (some ad) (p :: t).length c).ownBlock := by
        intro m d
        split
        · rfl
        · simp [Value.ownBlock, CA.add_block]
      have hg2 : (W1.alloc (.cells #[.int .i64 p.2.id, .slice A1 n1 c1] 38)).cell? ⟨g, 2, none⟩ = some (.slice (some ad) (p :: t).length c) := (blk_cell hLY.blk 2).trans rfl
      generalize hA9 : (if c = 1 then some ad else (some ad).map (·.add (1 * 2))) = A9 at *
      replace hA9 := Lib.hid hA9
      generalize hln : (p :: t).length = ln at *
      have hln := Lib.hid hln
      replace hqd := Lib.hid hqd
      replace hdY := Lib.hid hdY
      go_upto_region 2 with fail
      generalize hb4 : W1.heap.size = b4 at *
      generalize W1.alloc (.cells #[.int .i64 p.2.id, .slice A1 n1 c1] 38) = Y at *
      have qg := blk_frozen hLY.blk
      go_upto_region 4 with fail
      have htyp : ad.block ≠ g := by
        intro e
        obtain ⟨_, cells, hcs⟩ := q_typed hLY.q ad.block rfl
        rw [e, hLY.blk] at hcs
        simp at hcs
      have hgZ : Hid ((Y.setCell ⟨g, 2, none⟩ (.slice A9 (ln - 1) (c - 1))).heap[g]? = some (.cells #[.string nm, .slice C nc dc, .slice A9 (ln - 1) (c - 1), .int .i64 room, .int .i64 (rowsN ((p :: t).map Prod.snd) : Int)] 135 (0, 0))) := blk_put hLY.blk 2 _ rfl
      have hb4g : b4 ≠ g := by omega
      have hb2g : w.heap.size ≠ g := by omega
      have b4Z := Lib.hid (blk_far (p := ⟨g, 2, none⟩) b4Y hb4g (.slice A9 (ln - 1) (c - 1)))
      have a2Z := Lib.hid (blk_far (p := ⟨g, 2, none⟩) a2Y hb2g (.slice A9 (ln - 1) (c - 1)))
      have hfar : ∀ q, q ≠ g → (Y.setCell ⟨g, 2, none⟩ (.slice A9 (ln - 1) (c - 1))).heap[q]? = Y.heap[q]? := fun q hq => Below.heap_setCell Y ⟨g, 2, none⟩ _ q hq
      have hszZ : (Y.setCell ⟨g, 2, none⟩ (.slice A9 (ln - 1) (c - 1))).heap.size = Y.heap.size := by simp [World.setCell]
      have hosZ : (Y.setCell ⟨g, 2, none⟩ (.slice A9 (ln - 1) (c - 1))).os = w.os ∧ (Y.setCell ⟨g, 2, none⟩ (.slice A9 (ln - 1) (c - 1))).tape = w.tape ∧ (Y.setCell ⟨g, 2, none⟩ (.slice A9 (ln - 1) (c - 1))).output = w.output := ⟨hBY.os, hBY.tape, hBY.output⟩
      generalize Y.setCell ⟨g, 2, none⟩ (.slice A9 (ln - 1) (c - 1)) = Z at *
      have hrq : Hid (rowsN ((p :: t).map Prod.snd) = n1 + rowsN (t.map Prod.snd)) := by show _ = _; rw [hrl.out]; simp [rowsN]
      have hrb : Hid (rowsN ((p :: t).map Prod.snd) ≤ 32000000) := by
        have := rowsN_le ((p :: t).map Prod.snd) (fun b hb => by obtain ⟨q, hq, rfl⟩ := List.mem_map.1 hb; exact (hLY.fit q hq).1)
        rw [List.length_map] at this
        show _ ≤ _; omega
      obtain ⟨rq, hrqd⟩ : ∃ r, r = rowsN ((p :: t).map Prod.snd) := ⟨_, rfl⟩
      rw [← hrqd] at hgZ hrq hrb
      clear hrqd
      have hb1 : (rq : Int) ≤ 32000000 := by have := hrb.out; omega
      have hb2 : (n1 : Int) ≤ (rq : Int) := by have := hrq.out; omega
      have g4 : Z.cell? ⟨g, 4, none⟩ = some (.int .i64 (rq : Int)) := (blk_cell hgZ.out 4).trans rfl
      have k1 : Z.cell? ⟨b4, 1, none⟩ = some (.slice A1 n1 c1) := (blk_cell b4Z.out 1).trans rfl
      have qgZ := blk_frozen hgZ.out
      refine start_ (n := 11) (S := fun w' => w'.cell? ⟨g, 4, none⟩ = some (.int .i64 (rq : Int)) ∧ w'.cell? ⟨b4, 1, none⟩ = some (.slice A1 n1 c1)) (ds := [10]) #[false, false, false, false, false, false, false, false, false, false, false] (by kernel_rfl) rfl rfl ⟨g4, k1⟩ (fun hHeld => ?_)
      refine pure_ (i := 0) (N := some 20) (v := ?_) (a' := ?_) #[true, false, false, false, false, false, false, false, false, false, false] rfl rfl (by kernel_rfl) (fun _ _ _ h => h) (Or.inl ⟨by rfl, ?_⟩) ?_ ?_
      rotate_left
      · intro w'
        go_simp
        with_reducible rfl
      rotate_left
      · simp only [Act.put, List.setIfInBounds_toArray, List.set_cons_zero, List.set_cons_succ, i64_w, i32_w]
        rfl
      refine pure_ (i := 1) (N := some 21) (v := ?_) (a' := ?_) #[true, true, false, false, false, false, false, false, false, false, false] rfl rfl (by kernel_rfl) (fun _ _ _ h => h) (Or.inl ⟨by rfl, ?_⟩) ?_ ?_
      rotate_left
      · intro w'
        go_simp
        with_reducible rfl
      rotate_left
      · simp only [Act.put, List.setIfInBounds_toArray, List.set_cons_zero, List.set_cons_succ, i64_w, i32_w]
        rfl
      refine pure_ (i := 2) (N := some 22) (v := ?_) (a' := ?_) #[true, true, true, false, false, false, false, false, false, false, false] rfl rfl (by kernel_rfl) (fun _ _ _ h => h) (Or.inl ⟨by rfl, ?_⟩) ?_ ?_
      rotate_left
      · intro w'
        go_simp
        with_reducible rfl
      rotate_left
      · simp only [Act.put, List.setIfInBounds_toArray, List.set_cons_zero, List.set_cons_succ, i64_w, i32_w]
        rfl
      refine pure_ (i := 4) (N := some 24) (v := ?_) (a' := ?_) #[true, true, true, false, true, false, false, false, false, false, false] rfl rfl (by kernel_rfl) (fun _ _ _ h => h) (Or.inl ⟨by rfl, ?_⟩) ?_ ?_
      rotate_left
      · intro w'
        go_simp
        with_reducible rfl
      rotate_left
      · simp only [Act.put, List.setIfInBounds_toArray, List.set_cons_zero, List.set_cons_succ, i64_w, i32_w]
        rfl
      refine take_ (i := 3) (N := some 23) (v := ?_) (a' := ?_) #[true, true, true, true, true, false, false, false, false, false, false] rfl rfl (by kernel_rfl) (fun _ _ _ h => h) (Or.inl ⟨by rfl, ?_⟩) hHeld ?_ ?_
      rotate_left
      · rintro w' ⟨s0, s1⟩
        go_simp
        with_reducible rfl
      rotate_left
      · simp only [Act.put, List.setIfInBounds_toArray, List.set_cons_zero, List.set_cons_succ, i64_w, i32_w]
        rfl
      refine take_ (i := 5) (N := some 25) (v := ?_) (a' := ?_) #[true, true, true, true, true, true, false, false, false, false, false] rfl rfl (by kernel_rfl) (fun _ _ _ h => h) (Or.inl ⟨by rfl, ?_⟩) hHeld ?_ ?_
      rotate_left
      · rintro w' ⟨s0, s1⟩
        go_simp
        with_reducible rfl
      rotate_left
      · simp only [Act.put, List.setIfInBounds_toArray, List.set_cons_zero, List.set_cons_succ, i64_w, i32_w]
        rfl
      refine pure_ (i := 6) (N := some 26) (v := ?_) (a' := ?_) #[true, true, true, true, true, true, true, false, false, false, false] rfl rfl (by kernel_rfl) (fun _ _ _ h => h) (Or.inl ⟨by rfl, ?_⟩) ?_ ?_
      rotate_left
      · intro w'
        go_simp
        with_reducible rfl
      rotate_left
      · simp only [Act.put, List.setIfInBounds_toArray, List.set_cons_zero, List.set_cons_succ, i64_w, i32_w]
        rfl
      refine pure_ (i := 7) (N := some 27) (v := ?_) (a' := ?_) #[true, true, true, true, true, true, true, true, false, false, false] rfl rfl (by kernel_rfl) (fun _ _ _ h => h) (Or.inl ⟨by rfl, ?_⟩) ?_ ?_
      rotate_left
      · intro w'
        go_simp
        with_reducible rfl
      rotate_left
      · simp only [Act.put, List.setIfInBounds_toArray, List.set_cons_zero, List.set_cons_succ, i64_w, i32_w]
        rfl
      refine pure_ (i := 8) (N := some 28) (v := ?_) (a' := ?_) #[true, true, true, true, true, true, true, true, true, false, false] rfl rfl (by kernel_rfl) (fun _ _ _ h => h) (Or.inl ⟨by rfl, ?_⟩) ?_ ?_
      rotate_left
      · intro w'
        go_simp
        with_reducible rfl
      rotate_left
      · simp only [Act.put, List.setIfInBounds_toArray, List.set_cons_zero, List.set_cons_succ, i64_w, i32_w]
        rfl
      refine pure_ (i := 9) (N := some 29) (v := ?_) (a' := ?_) #[true, true, true, true, true, true, true, true, true, true, false] rfl rfl (by kernel_rfl) (fun _ _ _ h => h) (Or.inl ⟨by rfl, ?_⟩) ?_ ?_
      rotate_left
      · intro w'
        go_simp
        with_reducible rfl
      rotate_left
      · simp only [Act.put, List.setIfInBounds_toArray, List.set_cons_zero, List.set_cons_succ, i64_w, i32_w]
        rfl
      refine last_ (i := 10) (N := none) #[true, true, true, true, true, true, true, true, true, true, true] rfl rfl (by kernel_rfl) (by decide) (fun K hK => ?_)
      have g4 : Z.drew.cell? ⟨g, 4, none⟩ = some (.int .i64 (rq : Int)) := g4
      refine skip_ (w1 := ?_) (by rfl) rfl ?_ ?_
      rotate_left
      · go_simp
        rfl
      refine hK.out _ _ ?_
      clear hK K
      refine done_ (by kernel_rfl) ?_
      have hsub : Hid (wrap64 ((rq : Int) - (n1 : Int)) = (rowsN (t.map Prod.snd) : Int)) := by have := hrq.out; show _ = _; unfold wrap64; omega
      have hgF : Hid (((Z.setCell ⟨g, 4, none⟩ (.int .i64 (wrap64 ((rq : Int) - (n1 : Int))))).drew).heap[g]? = some (.cells #[.string nm, .slice C nc dc, .slice A9 (ln - 1) (c - 1), .int .i64 room, .int .i64 (rowsN (t.map Prod.snd) : Int)] 135 (0, 0))) := by rw [hsub.out]; exact blk_drew (blk_put hgZ.out 4 _ rfl)
      have b4F := blk_drew (blk_far (p := ⟨g, 4, none⟩) b4Z.out hb4g (.int .i64 (wrap64 ((rq : Int) - (n1 : Int)))))
      have a2F := Lib.hid (blk_drew (blk_far (p := ⟨g, 4, none⟩) a2Z.out hb2g (.int .i64 (wrap64 ((rq : Int) - (n1 : Int))))))
      have hfarF : ∀ q, q ≠ g → ((Z.setCell ⟨g, 4, none⟩ (.int .i64 (wrap64 ((rq : Int) - (n1 : Int))))).drew).heap[q]? = Y.heap[q]? := fun q hq => (Below.heap_setCell Z ⟨g, 4, none⟩ _ q hq).trans (hfar q hq)
      have hszF : ((Z.setCell ⟨g, 4, none⟩ (.int .i64 (wrap64 ((rq : Int) - (n1 : Int))))).drew).heap.size = Y.heap.size := by simp [World.setCell]; exact hszZ
      have hosF : ((Z.setCell ⟨g, 4, none⟩ (.int .i64 (wrap64 ((rq : Int) - (n1 : Int))))).drew).os = w.os ∧ ((Z.setCell ⟨g, 4, none⟩ (.int .i64 (wrap64 ((rq : Int) - (n1 : Int))))).drew).tape = w.tape ∧ ((Z.setCell ⟨g, 4, none⟩ (.int .i64 (wrap64 ((rq : Int) - (n1 : Int))))).drew).output = w.output := hosZ
      clear hfar hszZ hosZ hgZ b4Z a2Z qgZ g4 k1 hHeld qg hg2
      generalize (Z.setCell ⟨g, 4, none⟩ (.int .i64 (wrap64 ((rq : Int) - (n1 : Int))))).drew = F at *
      have k0 : F.cell? ⟨b4, 0, none⟩ = some (.int .i64 p.2.id) := (blk_cell b4F 0).trans rfl
      have k1 : F.cell? ⟨b4, 1, none⟩ = some (.slice A1 n1 c1) := (blk_cell b4F 1).trans rfl
      have g0 : F.cell? ⟨w.heap.size, 0, none⟩ = some (.int .i64 0) := (blk_cell a2F.out 0).trans rfl
      have g1 : F.cell? ⟨w.heap.size, 1, none⟩ = some (.slice none 0 0) := (blk_cell a2F.out 1).trans rfl
      have q0 := blk_frozen a2F.out
      replace hLY := Lib.hid hLY
      have hBYs := hBY.size
      clear b4Y a2Y b4F
      go_wp2
      refine bodyPost_ret (results_ct rfl _ _ w.heap.size 38 #[.int .i64 p.2.id, .slice A1 n1 c1] (0, 0) _ rfl (blk_put (blk_put a2F.out 0 _ rfl) 1 _ rfl) Try.underlying38 rfl (by kernel_rfl)) rfl ?_
      obtain ⟨E, hE⟩ : ∃ E, E = (F.setCell ⟨w.heap.size, 0, none⟩ (.int .i64 p.2.id)).setCell ⟨w.heap.size, 1, none⟩ (.slice A1 n1 c1) := ⟨_, rfl⟩
      rw [← hE]
      have hfE : ∀ q, q ≠ w.heap.size → E.heap[q]? = F.heap[q]? := fun q hq => by
        rw [hE]
        exact (Below.heap_setCell _ ⟨w.heap.size, 1, none⟩ _ q hq).trans (Below.heap_setCell _ ⟨w.heap.size, 0, none⟩ _ q hq)
      have hsE : E.heap.size = Y.heap.size := by rw [hE]; simp [World.setCell]; exact hszF
      have hoE : E.os = w.os ∧ E.tape = w.tape ∧ E.output = w.output := by rw [hE]; exact hosF
      have hYE : ∀ q, q ≠ w.heap.size → q ≠ g → E.heap[q]? = Y.heap[q]? := fun q h1 h2 => (hfE q h1).trans (hfarF q h2)
      have hbadY : ad.block < Y.heap.size := q_lt hLY.out.q ad.block rfl
      have hbad2 : ad.block ≠ w.heap.size := by
        intro e
        obtain ⟨_, cells, hcs⟩ := q_typed h.q ad.block rfl
        have := blk_lt hcs
        omega
      have hgEw : g ≠ w.heap.size := by omega
      have hwBs : wB.heap.size ≤ w.heap.size := h.hB.size
      refine .inr ⟨p, t, .slice A9 (ln - 1) (c - 1), A1, n1, c1, rfl, rfl, Dep.wide (B := V.heap.size) (E := b4) (hdY.out.move (fun q h0 h1 => hYE q (by omega) (by omega))) (by omega) (by omega), hd1, hd2, ?_, ?_⟩
      · have hl1 : ln - 1 = t.length := by have := hln.out; simp at this; omega
        constructor
        · exact ⟨hoE.1.trans h.hB.os, hoE.2.1.trans h.hB.tape, hoE.2.2.trans h.hB.output, by omega, fun q hq => (hYE q (by omega) (by have := h.gB; omega)).trans (hLY.out.hB.block q hq)⟩
        · exact (hfE g hgEw).trans hgF.out
        · exact h.gB
        · have := hqd.out
          rw [show List.drop (1 * 2) ((p :: t).flatMap cBt) = t.flatMap cBt by simp [cBt], hl1] at this
          rw [hl1]
          refine q_move this (fun q e => ?_)
          have e2 : ad.block = q := by
            have := (hown (ln - 1) (c - 1)).symm.trans (show _ = some q from by rw [hl1]; exact e)
            simpa [Value.ownBlock] using this
          subst e2
          exact hYE _ hbad2 htyp
        · intro p' hp'
          refine (h.sl p' (List.mem_cons_of_mem _ hp')).move (fun q hq hm hlo => (hYE q (by omega) (fun e => hm (.inl e))).trans (hBY.block q hq)) (by omega) (fun q hm => ?_)
          · rcases hm with h1 | h1 | h1
            · exact .inl (.inl h1)
            · exact .inl (.inr (.inl ((hown (ln - 1) (c - 1)).symm.trans h1)))
            · exact .inl (.inr (.inr h1))
        · intro q hq
          obtain ⟨x1, x2, x3⟩ := hLY.out.xk q hq
          exact ⟨by omega, fun e => x2 ((hown (ln - 1) (c - 1)).symm.trans e), x3⟩
        · exact fun q hq => hLY.out.fit q (List.mem_cons_of_mem _ hq)
      · refine ⟨hoE.1, hoE.2.1, hoE.2.2, by omega, fun q hq h1 h2 => (hYE q (by omega) h1).trans (hBY.block q hq), .inl (hown (ln - 1) (c - 1))⟩
end Go.Proofs.Ytegkclehijdbiaa.LD
