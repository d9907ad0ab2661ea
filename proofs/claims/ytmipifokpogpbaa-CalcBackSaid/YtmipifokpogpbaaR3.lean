import Derived.Test.YtmipifokpogpbaaR2
namespace Go.Proofs.Ytmipifokpogpbaa.R3
open Go.RowKit Go.Proofs.YtmipifokpogpbaaW.PrintWords Go.Proofs.Ytmipifokpogpbaa.M Go.Proofs.Ytmipifokpogpbaa.R1 Go.Proofs.Ytmipifokpogpbaa.R2

theorem bcell {W w1 : World} (hb : Below W.heap.size W w1) : (∀ b o, b < W.heap.size → w1.cell? ⟨b, o, none⟩ = W.cell? ⟨b, o, none⟩) ∧ (∀ b o, b < W.heap.size → w1.frozen? ⟨b, o, none⟩ = W.frozen? ⟨b, o, none⟩) :=
  ⟨fun b o h => hb.cell (p := ⟨b, o, none⟩) h, fun b o h => hb.frozen (p := ⟨b, o, none⟩) h⟩

theorem heap_alloc (w : World) (o : Obj) (i : Nat) : (w.alloc o).heap[i]? = if i = w.heap.size then some o else w.heap[i]? := by
  show (w.heap.push o)[i]? = _
  rw [Array.getElem?_push]

theorem sgn_eq {neg : Bool} {l : List Int} {x : Int} (h : Nm neg l x) : sgn neg (val l) = x := by have := h.eq; unfold sgn; exact this.symm
theorem sgn_add (neg : Bool) (a b : Int) : sgn neg (a + b) = sgn neg a + sgn neg b := by unfold sgn; cases neg <;> simp <;> omega
theorem own_cap {w : World} {base n m c size : Nat} {e : TypeId} {A : Option Addr} {xs : List Value} (h : w.ownsRow base e size (.slice A m c) n xs) : c ≤ maxLen := by
  rcases h.2 with ⟨h', _⟩ | ⟨g, cap, cur, h', _, _, _, h2, _⟩
  · injection h' with _ _ h3; rw [h3]; exact Nat.zero_le _
  · injection h' with _ _ h3; rw [h3]; exact h2
theorem sgn_not {neg : Bool} {l : List Int} {x : Int} (h : Nm neg l x) : sgn (!neg) (val l) = -x := by have := h.eq; unfold sgn; cases neg <;> simp at this ⊢ <;> omega

theorem reads_set {w : World} {k : IntKind} {A : Option Addr} {n : Nat} {xs : List Int} (h : ReadsInt w k A n xs) {p : Addr} {u : Value} (z : Value) (hp : w.cell? p = some u) (hu : ∀ q, u ≠ .int k q) : ReadsInt (w.setCell p z) k A n xs := by
  refine ⟨h.1, h.2.1, fun hn => ?_⟩
  obtain ⟨ad, e, hc⟩ := h.2.2 hn
  refine ⟨ad, e, fun i hi => ?_⟩
  have h1 := hc i hi
  rw [World.cell?_setCell_other _ _ _ _ (fun e => by rw [e, h1] at hp; exact hu _ (Option.some.inj hp).symm)]
  exact h1

/-- The result's variable is written: its block's two cells, and what is handed back. -/
theorem num_set {w w' : World} {g : Nat} {x : Int} {neg : Bool} {A : Option Addr} {c : Nat} {ds : List Int} {b0 : Bool} (hb : w'.heap[g]? = some (.cells #[.bool b0, .slice none 0 0] 29 (0, 0)))
    (hr : ReadsInt w' .i64 A ds.length ds) (l1 : ds.length ≤ c) (l2 : c ≤ maxLen) (hx : Nm neg ds x) (hw : Below w.heap.size w w') (hg : w.heap.size ≤ g) {fn : Func} {p : Tmp} (h : fn.results = #[.cell p 29]) (tmps : Array Value) (hp : tmps.getD p undef = .pointer (some ⟨g, 0, none⟩)) :
    ∃ v, (results fn tmps).run Try.prog ((w'.setCell ⟨g, 0, none⟩ (.bool neg)).setCell ⟨g, 1, none⟩ (.slice A ds.length c)) = .ok v ((w'.setCell ⟨g, 0, none⟩ (.bool neg)).setCell ⟨g, 1, none⟩ (.slice A ds.length c)) ∧ NumR w x (.returned v) ((w'.setCell ⟨g, 0, none⟩ (.bool neg)).setCell ⟨g, 1, none⟩ (.slice A ds.length c)) := by
  have h1 := blk_put hb 0 (.bool neg) rfl
  have h2 := blk_put h1 1 (.slice A ds.length c) rfl
  refine ⟨_, results_cell_row h tmps _ g 29 _ (0, 0) _ hp h2 Try.underlying29 rfl (by kernel_rfl), _, rfl, ⟨neg, A, c, ds, rfl, ?_, l1, l2, hx⟩, (hw.setCell hg _).setCell hg _⟩
  refine reads_set (u := .slice none 0 0) (reads_set (u := .bool b0) hr _ ?_ (fun q h => by cases h)) _ ?_ (fun q h => by cases h)
  · exact (blk_cell hb 0).trans rfl
  · exact (blk_cell h1 1).trans rfl
theorem bodyPost_num {P : Program} {fn : Func} {R : Ending → World → Prop} {a : Act} {w : World} (hd : a.defers = []) (h : ∃ v, (results fn a.tmps).run P w = .ok v w ∧ R (.returned v) w) : bodyPost P fn R .ret a w := ⟨hd, h⟩

set_option maxHeartbeats 400000 in
theorem minus (v : Value) (x : Int) (w : World) (h : Num w v x) : Calls Try.prog 14 #[v] w (NumR w (-x)) := by
  obtain ⟨neg, A, c, ds, rfl, hr, h1, h2, h3⟩ := h
  have hx := Lib.hid (sgn_not h3)
  go_enter Try.func14, Try.ntmps14
  go_wp2_with (go_at_call 37; (with_reducible refine (sign (!neg) A _ c ds _ (hr.below (by go_grown)) h1 h2 h3.dg).mono ?_); rintro e w' ⟨_, rfl, ⟨neg', A', c', ds', rfl, hr', l1, l2, hx'⟩, hB⟩; obtain ⟨hc, hf⟩ := bcell hB)
  all_goals
    refine bodyPost_num rfl (num_set (b0 := false) ((hB.block _ (by simp)).trans (by simp only [heap_alloc, World.size_alloc]; simp)) hr' l1 l2 (by rw [hx.out] at hx'; exact hx') ?_ (by omega) rfl _ rfl)
    exact Below.trans (by go_grown) (hB.mono (by simp; omega))

set_option maxHeartbeats 1000000 in
theorem plus_same (neg : Bool) (A B : Option Addr) (c d : Nat) (xs ys : List Int) (x y : Int) (w : World) (hr : ReadsInt w .i64 A xs.length xs) (hs : ReadsInt w .i64 B ys.length ys)
    (h3 : Nm neg xs x) (k3 : Nm neg ys y) (hn : xs.length ≤ 1000000) (hm : ys.length ≤ 1000000) :
    Calls Try.prog 16 #[.agg #[.bool neg, .slice A xs.length c], .agg #[.bool neg, .slice B ys.length d]] w (NumR w (x + y)) := by
  have heq : (neg == neg) = true := by simp
  go_enter Try.func16, Try.ntmps16
  go_wp2
  have f0 : (((w.alloc (.cells #[.bool neg, .slice A xs.length c] 29)).alloc (.cells #[.bool neg, .slice B ys.length d] 29)).alloc (.cells #[.bool false, .slice none 0 0] 29)).cell? ⟨w.heap.size, 0, none⟩ = some (.bool neg) := by go_simp
  have f1 : (((w.alloc (.cells #[.bool neg, .slice A xs.length c] 29)).alloc (.cells #[.bool neg, .slice B ys.length d] 29)).alloc (.cells #[.bool false, .slice none 0 0] 29)).cell? ⟨w.heap.size, 1, none⟩ = some (.slice A xs.length c) := by go_simp
  have f2 : (((w.alloc (.cells #[.bool neg, .slice A xs.length c] 29)).alloc (.cells #[.bool neg, .slice B ys.length d] 29)).alloc (.cells #[.bool false, .slice none 0 0] 29)).cell? ⟨w.heap.size + 1, 1, none⟩ = some (.slice B ys.length d) := by go_simp
  have f3 : Hid ((((w.alloc (.cells #[.bool neg, .slice A xs.length c] 29)).alloc (.cells #[.bool neg, .slice B ys.length d] 29)).alloc (.cells #[.bool false, .slice none 0 0] 29)).heap[w.heap.size + 2]? = some (.cells #[.bool false, .slice none 0 0] 29 (0, 0))) := by show _ = _; simp only [heap_alloc, World.size_alloc]; simp
  have f6 : (((w.alloc (.cells #[.bool neg, .slice A xs.length c] 29)).alloc (.cells #[.bool neg, .slice B ys.length d] 29)).alloc (.cells #[.bool false, .slice none 0 0] 29)).cell? ⟨w.heap.size + 2, 0, none⟩ = some (.bool false) := by go_simp
  have f7 : (((w.alloc (.cells #[.bool neg, .slice A xs.length c] 29)).alloc (.cells #[.bool neg, .slice B ys.length d] 29)).alloc (.cells #[.bool false, .slice none 0 0] 29)).cell? ⟨w.heap.size + 2, 1, none⟩ = some (.slice none 0 0) := by go_simp
  have f8 : ∀ o, (((w.alloc (.cells #[.bool neg, .slice A xs.length c] 29)).alloc (.cells #[.bool neg, .slice B ys.length d] 29)).alloc (.cells #[.bool false, .slice none 0 0] 29)).frozen? ⟨w.heap.size + 2, o, none⟩ = false := fun o => by go_simp
  have f4 : Below w.heap.size w (((w.alloc (.cells #[.bool neg, .slice A xs.length c] 29)).alloc (.cells #[.bool neg, .slice B ys.length d] 29)).alloc (.cells #[.bool false, .slice none 0 0] 29)) := by go_grown
  have f5 : w.heap.size + 2 < (((w.alloc (.cells #[.bool neg, .slice A xs.length c] 29)).alloc (.cells #[.bool neg, .slice B ys.length d] 29)).alloc (.cells #[.bool false, .slice none 0 0] 29)).heap.size := by simp
  generalize (((w.alloc (.cells #[.bool neg, .slice A xs.length c] 29)).alloc (.cells #[.bool neg, .slice B ys.length d] 29)).alloc (.cells #[.bool false, .slice none 0 0] 29)) = W at *
  have g0 : w.heap.size < W.heap.size := by omega
  have g1 : w.heap.size + 1 < W.heap.size := by omega
  have n0 : ¬ (w.heap.size + 1 + 1 = w.heap.size) := by omega
  have hr' := hr.below f4
  have hs' := hs.below f4
  clear hr hs
  go_region_held3 (fun w' => w'.cell? ⟨w.heap.size, 0, none⟩ = some (.bool neg) ∧ w'.cell? ⟨w.heap.size, 1, none⟩ = some (.slice A xs.length c) ∧ w'.cell? ⟨w.heap.size + 1, 1, none⟩ = some (.slice B ys.length d)) (go_keep)
    (first
      | (go_at_call 38; (with_reducible refine (add_ A B _ c _ d xs ys _ (hr'.below (by go_grown)) (hs'.below (by go_grown)) h3.dg k3.dg hn hm).mono ?_); rintro e w1 ⟨v, zs, rfl, hown, dz, hv, hzl, hB⟩; have hB1 : Below W.heap.size W w1 := ((Below.refl _ W).drew).trans hB; clear hB; obtain ⟨hc, hf⟩ := bcell hB1; obtain ⟨C, cap, rfl, hRC⟩ := own_reads hown; have hz : W.heap.size ≤ w1.heap.size := hB1.size; have g2 : w.heap.size < w1.heap.size := (by omega); have g3 : w.heap.size + 1 < w1.heap.size := (by omega); have g4 : w.heap.size + 2 < w1.heap.size := (by omega))
      | (go_at_call 37; (with_reducible refine (sign neg C _ cap zs _ (hRC.below (by go_grown)) (own_le hown) (own_cap hown) dz).mono ?_); rintro e w2 ⟨_, rfl, ⟨neg', A', c', ds', rfl, hr2, l1, l2, hx'⟩, hB⟩; have hB2 : Below w1.heap.size w1 w2 := hB; clear hB; obtain ⟨hc2, hf2⟩ := bcell hB2))
  go_wp2
  have hb1 : w1.heap[w.heap.size + 1 + 1]? = some (.cells #[.bool false, .slice none 0 0] 29 (0, 0)) := (hB1.block _ (by omega)).trans f3.out
  have hb2 : w2.heap[w.heap.size + 1 + 1]? = some (.cells #[.bool false, .slice none 0 0] 29 (0, 0)) := (hB2.block _ (by omega)).trans hb1
  refine bodyPost_num rfl (num_set (b0 := false) hb2 hr2 l1 l2 (by have e := hx'; rw [hv, show sgn neg (val xs + val ys) = x + y by rw [sgn_add, sgn_eq h3, sgn_eq k3]] at e; exact e) ?_ (by omega) rfl _ rfl)
  exact Below.trans f4 ((hB1.trans (hB2.mono (by omega))).mono (by omega))

theorem can_len {a b : List Int} (ha : Dg a) (hb : Dg b) (cb : Canon b) (h : val b ≤ val a) : b.length ≤ a.length := by
  rcases Nat.lt_or_ge a.length b.length with h1 | h1
  · have := less_len ha hb cb h1; omega
  · exact h1

set_option maxHeartbeats 1000000 in
theorem plus_less (na nb : Bool) (hne : na ≠ nb) (A B : Option Addr) (c d : Nat) (xs ys : List Int) (x y : Int) (w : World) (hr : ReadsInt w .i64 A xs.length xs) (hs : ReadsInt w .i64 B ys.length ys)
    (h3 : Nm na xs x) (k3 : Nm nb ys y) (hn : xs.length ≤ 1000000) (hm : ys.length ≤ 1000000) (hlt : val xs < val ys) :
    Calls Try.prog 16 #[.agg #[.bool na, .slice A xs.length c], .agg #[.bool nb, .slice B ys.length d]] w (NumR w (x + y)) := by
  have heq : (na == nb) = false := by simpa using hne
  have Hdec := Lib.hid (show decide (val xs < val ys) = true by simp; omega)
  have hle : val xs ≤ val ys := by omega
  have hlen := can_len k3.dg h3.dg h3.can hle
  have Hsum := Lib.hid (show sgn nb (val ys - val xs) = x + y by
    have e1 := h3.eq
    have e2 := k3.eq
    unfold sgn
    cases na <;> cases nb <;> simp at hne e1 e2 ⊢ <;> omega)
  have Hne := Lib.hid hne
  have Hlt := Lib.hid hlt
  clear hne hlt
  go_enter Try.func16, Try.ntmps16
  go_wp2_with (go_at_call 39; (with_reducible refine (less_ A B _ c _ d xs ys _ (hr.below (by go_grown)) (hs.below (by go_grown)) h3.dg k3.dg h3.can k3.can hn hm).mono ?_); rintro e w9 ⟨rfl, q, rfl⟩; rw [Hdec.out])
  have f0 : (((w.alloc (.cells #[.bool na, .slice A xs.length c] 29)).alloc (.cells #[.bool nb, .slice B ys.length d] 29)).alloc (.cells #[.bool false, .slice none 0 0] 29)).cell? ⟨w.heap.size + 1, 0, none⟩ = some (.bool nb) := by go_simp
  have f1 : (((w.alloc (.cells #[.bool na, .slice A xs.length c] 29)).alloc (.cells #[.bool nb, .slice B ys.length d] 29)).alloc (.cells #[.bool false, .slice none 0 0] 29)).cell? ⟨w.heap.size, 1, none⟩ = some (.slice A xs.length c) := by go_simp
  have f2 : (((w.alloc (.cells #[.bool na, .slice A xs.length c] 29)).alloc (.cells #[.bool nb, .slice B ys.length d] 29)).alloc (.cells #[.bool false, .slice none 0 0] 29)).cell? ⟨w.heap.size + 1, 1, none⟩ = some (.slice B ys.length d) := by go_simp
  have f3 : Hid ((((w.alloc (.cells #[.bool na, .slice A xs.length c] 29)).alloc (.cells #[.bool nb, .slice B ys.length d] 29)).alloc (.cells #[.bool false, .slice none 0 0] 29)).heap[w.heap.size + 2]? = some (.cells #[.bool false, .slice none 0 0] 29 (0, 0))) := by show _ = _; simp only [heap_alloc, World.size_alloc]; simp
  have f6 : (((w.alloc (.cells #[.bool na, .slice A xs.length c] 29)).alloc (.cells #[.bool nb, .slice B ys.length d] 29)).alloc (.cells #[.bool false, .slice none 0 0] 29)).cell? ⟨w.heap.size + 2, 0, none⟩ = some (.bool false) := by go_simp
  have f7 : (((w.alloc (.cells #[.bool na, .slice A xs.length c] 29)).alloc (.cells #[.bool nb, .slice B ys.length d] 29)).alloc (.cells #[.bool false, .slice none 0 0] 29)).cell? ⟨w.heap.size + 2, 1, none⟩ = some (.slice none 0 0) := by go_simp
  have f8 : ∀ o, (((w.alloc (.cells #[.bool na, .slice A xs.length c] 29)).alloc (.cells #[.bool nb, .slice B ys.length d] 29)).alloc (.cells #[.bool false, .slice none 0 0] 29)).frozen? ⟨w.heap.size + 2, o, none⟩ = false := fun o => by go_simp
  have f4 : Below w.heap.size w (((w.alloc (.cells #[.bool na, .slice A xs.length c] 29)).alloc (.cells #[.bool nb, .slice B ys.length d] 29)).alloc (.cells #[.bool false, .slice none 0 0] 29)) := by go_grown
  have f5 : w.heap.size + 2 < (((w.alloc (.cells #[.bool na, .slice A xs.length c] 29)).alloc (.cells #[.bool nb, .slice B ys.length d] 29)).alloc (.cells #[.bool false, .slice none 0 0] 29)).heap.size := by simp
  generalize (((w.alloc (.cells #[.bool na, .slice A xs.length c] 29)).alloc (.cells #[.bool nb, .slice B ys.length d] 29)).alloc (.cells #[.bool false, .slice none 0 0] 29)) = W at *
  have g0 : w.heap.size < W.heap.size := by omega
  have g1 : w.heap.size + 1 < W.heap.size := by omega
  have n0 : ¬ (w.heap.size + 1 + 1 = w.heap.size) := by omega
  have hr' := hr.below f4
  have hs' := hs.below f4
  clear hr hs
  go_region_held3 (fun w' => w'.cell? ⟨w.heap.size + 1, 0, none⟩ = some (.bool nb) ∧ w'.cell? ⟨w.heap.size, 1, none⟩ = some (.slice A xs.length c) ∧ w'.cell? ⟨w.heap.size + 1, 1, none⟩ = some (.slice B ys.length d)) (go_keep)
    (first
      | (go_at_call 40; (with_reducible refine (sub_ B A _ d _ c ys xs _ (hs'.below (by repeat (first | (with_reducible exact Below.refl _ _) | (with_reducible apply below_drew) | (with_reducible apply pw_below_drewN)))) (hr'.below (by repeat (first | (with_reducible exact Below.refl _ _) | (with_reducible apply below_drew) | (with_reducible apply pw_below_drewN)))) k3.dg h3.dg hm hlen hle).mono ?_); rintro e w1 ⟨v, zs, rfl, hown, dz, hv, hzl, hB⟩; have hB1 : Below W.heap.size W w1 := (pw_below_drewN (Below.refl _ W) q).drew.trans hB; clear hB; obtain ⟨hc, hf⟩ := bcell hB1; obtain ⟨C, cap, rfl, hRC⟩ := own_reads hown; have hz : W.heap.size ≤ w1.heap.size := hB1.size; have g2 : w.heap.size < w1.heap.size := (by omega); have g3 : w.heap.size + 1 < w1.heap.size := (by omega); have g4 : w.heap.size + 2 < w1.heap.size := (by omega))
      | (go_at_call 37; (with_reducible refine (sign nb C _ cap zs _ (hRC.below (by go_grown)) (own_le hown) (own_cap hown) dz).mono ?_); rintro e w2 ⟨_, rfl, ⟨neg', A', c', ds', rfl, hr2, l1, l2, hx'⟩, hB⟩; have hB2 : Below w1.heap.size w1 w2 := hB; clear hB; obtain ⟨hc2, hf2⟩ := bcell hB2))
  go_wp2
  have hb1 : w1.heap[w.heap.size + 1 + 1]? = some (.cells #[.bool false, .slice none 0 0] 29 (0, 0)) := (hB1.block _ (by omega)).trans f3.out
  have hb2 : w2.heap[w.heap.size + 1 + 1]? = some (.cells #[.bool false, .slice none 0 0] 29 (0, 0)) := (hB2.block _ (by omega)).trans hb1
  refine bodyPost_num rfl (num_set (b0 := false) hb2 hr2 l1 l2 (by have e := hx'; rw [hv, Hsum.out] at e; exact e) ?_ (by omega) rfl _ rfl)
  exact Below.trans f4 ((hB1.trans (hB2.mono (by omega))).mono (by omega))

set_option maxHeartbeats 1000000 in
theorem plus_more (na nb : Bool) (hne : na ≠ nb) (A B : Option Addr) (c d : Nat) (xs ys : List Int) (x y : Int) (w : World) (hr : ReadsInt w .i64 A xs.length xs) (hs : ReadsInt w .i64 B ys.length ys)
    (h3 : Nm na xs x) (k3 : Nm nb ys y) (hn : xs.length ≤ 1000000) (hm : ys.length ≤ 1000000) (hlt : ¬ val xs < val ys) :
    Calls Try.prog 16 #[.agg #[.bool na, .slice A xs.length c], .agg #[.bool nb, .slice B ys.length d]] w (NumR w (x + y)) := by
  have heq : (na == nb) = false := by simpa using hne
  have Hdec := Lib.hid (show decide (val xs < val ys) = false by simp; omega)
  have hle : val ys ≤ val xs := by omega
  have hlen := can_len h3.dg k3.dg k3.can hle
  have Hsum := Lib.hid (show sgn na (val xs - val ys) = x + y by
    have e1 := h3.eq
    have e2 := k3.eq
    unfold sgn
    cases na <;> cases nb <;> simp at hne e1 e2 ⊢ <;> omega)
  have Hne := Lib.hid hne
  have Hlt := Lib.hid hlt
  clear hne hlt
  go_enter Try.func16, Try.ntmps16
  go_wp2_with (go_at_call 39; (with_reducible refine (less_ A B _ c _ d xs ys _ (hr.below (by go_grown)) (hs.below (by go_grown)) h3.dg k3.dg h3.can k3.can hn hm).mono ?_); rintro e w9 ⟨rfl, q, rfl⟩; rw [Hdec.out])
  have f0 : (((w.alloc (.cells #[.bool na, .slice A xs.length c] 29)).alloc (.cells #[.bool nb, .slice B ys.length d] 29)).alloc (.cells #[.bool false, .slice none 0 0] 29)).cell? ⟨w.heap.size, 0, none⟩ = some (.bool na) := by go_simp
  have f1 : (((w.alloc (.cells #[.bool na, .slice A xs.length c] 29)).alloc (.cells #[.bool nb, .slice B ys.length d] 29)).alloc (.cells #[.bool false, .slice none 0 0] 29)).cell? ⟨w.heap.size, 1, none⟩ = some (.slice A xs.length c) := by go_simp
  have f2 : (((w.alloc (.cells #[.bool na, .slice A xs.length c] 29)).alloc (.cells #[.bool nb, .slice B ys.length d] 29)).alloc (.cells #[.bool false, .slice none 0 0] 29)).cell? ⟨w.heap.size + 1, 1, none⟩ = some (.slice B ys.length d) := by go_simp
  have f3 : Hid ((((w.alloc (.cells #[.bool na, .slice A xs.length c] 29)).alloc (.cells #[.bool nb, .slice B ys.length d] 29)).alloc (.cells #[.bool false, .slice none 0 0] 29)).heap[w.heap.size + 2]? = some (.cells #[.bool false, .slice none 0 0] 29 (0, 0))) := by show _ = _; simp only [heap_alloc, World.size_alloc]; simp
  have f6 : (((w.alloc (.cells #[.bool na, .slice A xs.length c] 29)).alloc (.cells #[.bool nb, .slice B ys.length d] 29)).alloc (.cells #[.bool false, .slice none 0 0] 29)).cell? ⟨w.heap.size + 2, 0, none⟩ = some (.bool false) := by go_simp
  have f7 : (((w.alloc (.cells #[.bool na, .slice A xs.length c] 29)).alloc (.cells #[.bool nb, .slice B ys.length d] 29)).alloc (.cells #[.bool false, .slice none 0 0] 29)).cell? ⟨w.heap.size + 2, 1, none⟩ = some (.slice none 0 0) := by go_simp
  have f8 : ∀ o, (((w.alloc (.cells #[.bool na, .slice A xs.length c] 29)).alloc (.cells #[.bool nb, .slice B ys.length d] 29)).alloc (.cells #[.bool false, .slice none 0 0] 29)).frozen? ⟨w.heap.size + 2, o, none⟩ = false := fun o => by go_simp
  have f4 : Below w.heap.size w (((w.alloc (.cells #[.bool na, .slice A xs.length c] 29)).alloc (.cells #[.bool nb, .slice B ys.length d] 29)).alloc (.cells #[.bool false, .slice none 0 0] 29)) := by go_grown
  have f5 : w.heap.size + 2 < (((w.alloc (.cells #[.bool na, .slice A xs.length c] 29)).alloc (.cells #[.bool nb, .slice B ys.length d] 29)).alloc (.cells #[.bool false, .slice none 0 0] 29)).heap.size := by simp
  generalize (((w.alloc (.cells #[.bool na, .slice A xs.length c] 29)).alloc (.cells #[.bool nb, .slice B ys.length d] 29)).alloc (.cells #[.bool false, .slice none 0 0] 29)) = W at *
  have g0 : w.heap.size < W.heap.size := by omega
  have g1 : w.heap.size + 1 < W.heap.size := by omega
  have n0 : ¬ (w.heap.size + 1 + 1 = w.heap.size) := by omega
  have hr' := hr.below f4
  have hs' := hs.below f4
  clear hr hs
  go_region_held3 (fun w' => w'.cell? ⟨w.heap.size, 0, none⟩ = some (.bool na) ∧ w'.cell? ⟨w.heap.size, 1, none⟩ = some (.slice A xs.length c) ∧ w'.cell? ⟨w.heap.size + 1, 1, none⟩ = some (.slice B ys.length d)) (go_keep)
    (first
      | (go_at_call 40; (with_reducible refine (sub_ A B _ c _ d xs ys _ (hr'.below (by repeat (first | (with_reducible exact Below.refl _ _) | (with_reducible apply below_drew) | (with_reducible apply pw_below_drewN)))) (hs'.below (by repeat (first | (with_reducible exact Below.refl _ _) | (with_reducible apply below_drew) | (with_reducible apply pw_below_drewN)))) h3.dg k3.dg hn hlen hle).mono ?_); rintro e w1 ⟨v, zs, rfl, hown, dz, hv, hzl, hB⟩; have hB1 : Below W.heap.size W w1 := (pw_below_drewN (Below.refl _ W) q).drew.trans hB; clear hB; obtain ⟨hc, hf⟩ := bcell hB1; obtain ⟨C, cap, rfl, hRC⟩ := own_reads hown; have hz : W.heap.size ≤ w1.heap.size := hB1.size; have g2 : w.heap.size < w1.heap.size := (by omega); have g3 : w.heap.size + 1 < w1.heap.size := (by omega); have g4 : w.heap.size + 2 < w1.heap.size := (by omega))
      | (go_at_call 37; (with_reducible refine (sign na C _ cap zs _ (hRC.below (by go_grown)) (own_le hown) (own_cap hown) dz).mono ?_); rintro e w2 ⟨_, rfl, ⟨neg', A', c', ds', rfl, hr2, l1, l2, hx'⟩, hB⟩; have hB2 : Below w1.heap.size w1 w2 := hB; clear hB; obtain ⟨hc2, hf2⟩ := bcell hB2))
  go_wp2
  have hb1 : w1.heap[w.heap.size + 1 + 1]? = some (.cells #[.bool false, .slice none 0 0] 29 (0, 0)) := (hB1.block _ (by omega)).trans f3.out
  have hb2 : w2.heap[w.heap.size + 1 + 1]? = some (.cells #[.bool false, .slice none 0 0] 29 (0, 0)) := (hB2.block _ (by omega)).trans hb1
  refine bodyPost_num rfl (num_set (b0 := false) hb2 hr2 l1 l2 (by have e := hx'; rw [hv, Hsum.out] at e; exact e) ?_ (by omega) rfl _ rfl)
  exact Below.trans f4 ((hB1.trans (hB2.mono (by omega))).mono (by omega))

/-- A sum. -/
theorem plus (u v : Value) (x y : Int) (w : World) (h : Num w u x) (k : Num w v y) (hx : -10 ^ 1000000 < x) (hx' : x < 10 ^ 1000000) (hy : -10 ^ 1000000 < y) (hy' : y < 10 ^ 1000000) : Calls Try.prog 16 #[u, v] w (NumR w (x + y)) := by
  obtain ⟨na, A, c, xs, rfl, hr, h1, h2, h3⟩ := h
  obtain ⟨nb, B, d, ys, rfl, hs, k1, k2, k3⟩ := k
  have l1 := h3.len hx hx'
  have l2 := k3.len hy hy'
  by_cases e : na = nb
  · subst e
    exact plus_same na A B c d xs ys x y w hr hs h3 k3 l1 l2
  · by_cases hlt : val xs < val ys
    · exact plus_less na nb e A B c d xs ys x y w hr hs h3 k3 l1 l2 hlt
    · exact plus_more na nb e A B c d xs ys x y w hr hs h3 k3 l1 l2 hlt
end Go.Proofs.Ytmipifokpogpbaa.R3
