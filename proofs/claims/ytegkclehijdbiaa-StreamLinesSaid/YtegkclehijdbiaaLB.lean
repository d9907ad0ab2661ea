import Derived.Test.YtegkclehijdbiaaLA
import Derived.Test.YtegkclehijdbiaaRD
import Derived.Test.YtegkclehijdbiaaSN
set_option linter.unusedSimpArgs false
set_option linter.unusedVariables false
namespace Go.Proofs.Ytegkclehijdbiaa.LB
open Go.RowKit Go.Proofs.YtegkclehijdbiaaW.PrintWords Go.Proofs.Ytegkclehijdbiaa.V1 Go.Proofs.Ytegkclehijdbiaa.V2 Go.Proofs.Ytegkclehijdbiaa.V3 Go.Proofs.Ytegkclehijdbiaa.V8 Go.Proofs.Ytegkclehijdbiaa.VD Go.Proofs.Ytegkclehijdbiaa.CA Go.Proofs.Ytegkclehijdbiaa.CG Go.Proofs.Ytegkclehijdbiaa.CN Go.Proofs.Ytegkclehijdbiaa.CR Go.Proofs.Ytegkclehijdbiaa.RD Go.Proofs.Ytegkclehijdbiaa.LA Go.Proofs.Ytegkclehijdbiaa.SN Go.Proofs.Ytegkclehijdbiaa.W1 Go.Proofs.Ytegkclehijdbiaa.W2 Go.Proofs.Ytegkclehijdbiaa.W6
open Go.Proofs.YtegkclehijdbiaaW.PrintLast hiding takeB

/-- How many rows batches have. -/
def rowsN (bs : List Bt) : Nat := (bs.map fun b => b.rows.length).sum
/-- A batch whose rows hang on blocks that the movers M leave alone. -/
def SlotL (w : World) (lo : Nat) (M : Nat → Prop) (u : Value) (b : Bt) : Prop := ∃ A n c B E, u = .slice A n c ∧ Dep w B E A n b.rows ∧ n ≤ c ∧ c ≤ 9223372036854775807 ∧ lo ≤ B ∧ E ≤ w.heap.size ∧ (∀ k, M k → k < B ∨ E ≤ k) ∧ -9223372036854775808 ≤ b.id ∧ b.id ≤ 9223372036854775807
theorem SlotL.move {w w' : World} {lo : Nat} {M M' : Nat → Prop} {u : Value} {b : Bt} (h : SlotL w lo M u b) (hk : ∀ k, k < w.heap.size → ¬ M k → lo ≤ k → w'.heap[k]? = w.heap[k]?) (hs : w.heap.size ≤ w'.heap.size) (hM : ∀ k, M' k → M k ∨ w.heap.size ≤ k) : SlotL w' lo M' u b := by
  obtain ⟨A, n, c, B, E, e1, hd, h1, h2, h3, h4, h5, h6⟩ := h
  refine ⟨A, n, c, B, E, e1, hd.move (fun k k0 k1 => hk k (by omega) (fun hm => by have := h5 k hm; omega) (by omega)), h1, h2, h3, by omega, fun k hm => ?_, h6⟩
  rcases hM k hm with h | h
  · exact h5 k h
  · right; omega
/-- A line in memory. -/
structure Ln (wB w : World) (g : Nat) (nm : ByteArray) (C : Option Addr) (nc dc : Nat) (room : Int) (v : Value) (acc : List (Value × Bt)) (X : Nat → Prop) : Prop where
  hB : Below wB.heap.size wB w
  blk : w.heap[g]? = some (.cells #[.string nm, .slice C nc dc, v, .int .i64 room, .int .i64 (rowsN (acc.map Prod.snd) : Int)] 135 (0, 0))
  gB : wB.heap.size ≤ g
  q : QRow w wB.heap.size 38 2 v acc.length (acc.flatMap cBt)
  sl : ∀ p ∈ acc, SlotL w wB.heap.size (fun k => k = g ∨ v.ownBlock = some k ∨ X k) p.1 p.2
  xk : ∀ k, X k → k < w.heap.size ∧ v.ownBlock ≠ some k ∧ k ≠ g
  fit : ∀ p ∈ acc, p.2.rows.length ≤ 32 ∧ ∀ r ∈ p.2.rows, r.length ≤ 1000000
theorem q_rd {w : World} {base : Nat} {v : Value} {acc : List (Value × Bt)} (hq : QRow w base 38 2 v acc.length (acc.flatMap cBt)) (hs : ∀ p ∈ acc, ∃ A n c, p.1 = .slice A n c ∧ RdR w A n p.2.rows ∧ n ≤ c ∧ c ≤ 9223372036854775807 ∧ -9223372036854775808 ≤ p.2.id ∧ p.2.id ≤ 9223372036854775807) : ∃ A c, v = .slice A acc.length c ∧ RdB w A acc.length (acc.map Prod.snd) ∧ acc.length ≤ c ∧ c ≤ 9223372036854775807 := by
  have hmax := q_max hq
  rcases hq.2 with ⟨h0, A, rfl, _⟩ | ⟨g', off, cap, cur, rfl, hb, hcur, h1, h2, h3, h4⟩
  · obtain rfl : acc = [] := List.eq_nil_of_length_eq_zero h0
    exact ⟨A, 0, rfl, rdB_nil _ _, by simp, by omega⟩
  · refine ⟨_, cap, rfl, ⟨by simp, hmax, fun hn => ⟨g', off * 2, rfl, fun i hi => ?_⟩⟩, h1, by simp only [maxLen] at h2; omega⟩
    obtain ⟨ad, ead, hc⟩ := q_cells hq hn
    injection ead with ead
    subst ead
    have hel : el acc i = acc[i] := by simp [el, List.getD, hi]
    obtain ⟨A, n, c, hu, hr, hc1, hc2, i0, i1⟩ := hs _ (List.getElem_mem hi)
    have k0 := hc (i * 2 + 0) (.int .i64 (el acc i).2.id) (by rw [flat_get cBt 2 cBt_len acc i 0 hi (by omega)]; rfl)
    have k1 := hc (i * 2 + 1) (el acc i).1 (by rw [flat_get cBt 2 cBt_len acc i 1 hi (by omega)]; rfl)
    rw [V1.add_at] at k0 k1
    rw [hel] at k0 k1
    rw [Nat.add_zero] at k0
    rw [← Nat.add_assoc] at k1
    have e : el (acc.map Prod.snd) i = (acc[i]).2 := by simp [el, List.getD, hi]
    rw [e]
    exact ⟨A, n, c, k0, by rw [← hu]; exact k1, hr, hc1, hc2, i0, i1⟩
theorem Ln.rd {wB w : World} {g : Nat} {nm : ByteArray} {C : Option Addr} {nc dc : Nat} {room : Int} {v : Value} {acc : List (Value × Bt)} {X : Nat → Prop} (h : Ln wB w g nm C nc dc room v acc X) : ∃ A c, v = .slice A acc.length c ∧ RdB w A acc.length (acc.map Prod.snd) ∧ acc.length ≤ c ∧ c ≤ 9223372036854775807 :=
  q_rd h.q (fun p hp => by
    obtain ⟨A, n, c, B, E, e1, hd, h1, h2, _, _, _, h6, h7⟩ := h.sl p hp
    exact ⟨A, n, c, e1, hd.rd, h1, h2, h6, h7⟩)
theorem Ln.below {wB w w' : World} {g : Nat} {nm : ByteArray} {C : Option Addr} {nc dc : Nat} {room : Int} {v : Value} {acc : List (Value × Bt)} {X : Nat → Prop} (h : Ln wB w g nm C nc dc room v acc X) (hb : Below w.heap.size w w') : Ln wB w' g nm C nc dc room v acc X where
  hB := h.hB.trans (hb.mono h.hB.size)
  blk := (hb.block _ (blk_lt h.blk)).trans h.blk
  gB := h.gB
  q := q_move h.q (fun k hk => hb.block _ (q_lt h.q k hk))
  sl := fun p hp => (h.sl p hp).move (fun k hk _ _ => hb.block k hk) hb.size (fun k hm => .inl hm)
  xk := fun k hk => ⟨Nat.lt_of_lt_of_le (h.xk k hk).1 hb.size, (h.xk k hk).2⟩
  fit := h.fit
set_option maxHeartbeats 400000 in
theorem len58 {wB : World} (g : Nat) (nm : ByteArray) (C : Option Addr) (nc dc : Nat) (room : Int) (v : Value) (acc : List (Value × Bt)) (X : Nat → Prop) (w : World) (h : Ln wB w g nm C nc dc room v acc X) : Calls Try.prog 58 #[.pointer (some ⟨g, 0, none⟩)] w (SameW (.int .i64 (acc.length : Nat)) w) := by
  obtain ⟨A, c, rfl, _⟩ := h.rd
  have f0 : w.cell? ⟨g, 2, none⟩ = some (.slice A acc.length c) := (blk_cell h.blk 2).trans rfl
  clear h
  go_enter Try.func58, Try.ntmps58
  go_wp2
  go_ret
  exact ⟨rfl, rfl⟩
set_option maxHeartbeats 400000 in
theorem rows59 {wB : World} (g : Nat) (nm : ByteArray) (C : Option Addr) (nc dc : Nat) (room : Int) (v : Value) (acc : List (Value × Bt)) (X : Nat → Prop) (w : World) (h : Ln wB w g nm C nc dc room v acc X) : Calls Try.prog 59 #[.pointer (some ⟨g, 0, none⟩)] w (SameW (.int .i64 (rowsN (acc.map Prod.snd) : Nat)) w) := by
  have f0 : w.cell? ⟨g, 4, none⟩ = some (.int .i64 (rowsN (acc.map Prod.snd) : Int)) := (blk_cell h.blk 4).trans rfl
  clear h
  go_enter Try.func59, Try.ntmps59
  go_wp2
  go_ret
  exact ⟨rfl, rfl⟩
/-- What First leaves. -/
def FiR (w : World) (bs : List Bt) (e : Ending) (w' : World) : Prop := Below w.heap.size w w' ∧ ((bs = [] ∧ e = .returned (.tuple #[noB, .bool false])) ∨ ∃ b t A n c, bs = b :: t ∧ e = .returned (.tuple #[.agg #[.int .i64 b.id, .slice A n c], .bool true]) ∧ Dep w' w.heap.size w'.heap.size A n b.rows ∧ n ≤ c ∧ c ≤ 9223372036854775807)
set_option maxRecDepth 8000 in
set_option maxHeartbeats 1000000 in
theorem first55 {wB : World} (g : Nat) (nm : ByteArray) (C : Option Addr) (nc dc : Nat) (room : Int) (v : Value) (acc : List (Value × Bt)) (X : Nat → Prop) (w : World) (h : Ln wB w g nm C nc dc room v acc X) : Calls Try.prog 55 #[.pointer (some ⟨g, 0, none⟩)] w (FiR w (acc.map Prod.snd)) := by
  have P0 : Below w.heap.size w (w.alloc (.cells #[.int .i64 0, .slice none 0 0] 38)) := by go_grown
  have a0 : Hid ((w.alloc (.cells #[.int .i64 0, .slice none 0 0] 38)).heap[w.heap.size]? = some (.cells #[.int .i64 0, .slice none 0 0] 38 (0, 0))) := heap_alloc_new w _
  have hX := h.below P0
  have hL := Lib.hid (len58 g nm C nc dc room v acc X _ hX)
  replace hX := Lib.hid hX
  clear h
  cases hacc : acc with
  | nil =>
    subst hacc
    have g0 : (w.alloc (.cells #[.int .i64 0, .slice none 0 0] 38)).cell? ⟨w.heap.size, 0, none⟩ = some (.int .i64 0) := (blk_cell a0.out 0).trans rfl
    have g1 : (w.alloc (.cells #[.int .i64 0, .slice none 0 0] 38)).cell? ⟨w.heap.size, 1, none⟩ = some (.slice none 0 0) := (blk_cell a0.out 1).trans rfl
    have q0 := blk_frozen a0.out
    go_enter Try.func55, Try.ntmps55
    go_upto_region 1 with fail
    generalize w.alloc (.cells #[.int .i64 0, .slice none 0 0] 38) = V at *
    go_wp2_with fail
    (with_reducible refine hL.out.mono ?_)
    rintro e W1 ⟨rfl, rfl⟩
    go_wp2
    refine bodyPost_ret (results_ct rfl _ _ w.heap.size 38 #[.int .i64 0, .slice none 0 0] (0, 0) _ rfl (blk_put (blk_put a0.out 0 _ rfl) 1 _ rfl) Try.underlying38 rfl (by kernel_rfl)) rfl ?_
    exact ⟨(P0.setCell (Nat.le_refl _) _).setCell (Nat.le_refl _) _, .inl ⟨rfl, rfl⟩⟩
  | cons p t =>
    obtain ⟨A, c, rfl, hrd, hc1, hc2⟩ := hX.out.rd
    have hn0 : 0 < acc.length := by rw [hacc]; simp
    have hne : ¬ ((acc.length : Int) = 0) := by omega
    obtain ⟨b, o, rfl, ⟨A1, n1, c1, z0, z1, hrr, h1, h2, i0, i1⟩, q2⟩ := hrd.at_ (k := 0) hn0
    rw [Nat.zero_mul, Nat.add_zero] at z0 z1 q2
    have hel : el (acc.map Prod.snd) 0 = p.2 := by rw [hacc]; rfl
    rw [hel] at z0 hrr i0 i1
    have hfit := hX.out.fit p (by rw [hacc]; simp)
    have hbl : b < (w.alloc (.cells #[.int .i64 0, .slice none 0 0] 38)).heap.size := World.block_lt_of_cell? _ ⟨b, o, none⟩ z0
    have hCp := Lib.hid (copied91 p.2.id A1 n1 c1 p.2.rows _ hrr (by have := hrr.1; have := hfit.1; omega) hfit.2)
    have f2 : (w.alloc (.cells #[.int .i64 0, .slice none 0 0] 38)).cell? ⟨g, 2, none⟩ = some (.slice (some ⟨b, o, none⟩) acc.length c) := (blk_cell hX.out.blk 2).trans rfl
    have hacc2 := Lib.hid hacc
    clear hacc hrr hrd hfit hel
    have q0 : (0 : Int) < (acc.length : Int) := by omega
    go_enter Try.func55, Try.ntmps55
    go_upto_region 1 with fail
    generalize w.alloc (.cells #[.int .i64 0, .slice none 0 0] 38) = V at *
    go_wp2_with fail
    (with_reducible refine hL.out.mono ?_)
    rintro e W1 ⟨rfl, rfl⟩
    go_wp2_with fail
    (with_reducible refine hCp.out.mono ?_)
    rintro e W2 ⟨A2, n2, c2, rfl, hdep, hd1, hd2, hB2⟩
    have a2 := Lib.hid ((hB2.block _ (blk_lt a0.out)).trans a0.out)
    have P2 := P0.trans (hB2.mono P0.size)
    have g0 : W2.cell? ⟨w.heap.size, 0, none⟩ = some (.int .i64 0) := (blk_cell a2.out 0).trans rfl
    have g1 : W2.cell? ⟨w.heap.size, 1, none⟩ = some (.slice none 0 0) := (blk_cell a2.out 1).trans rfl
    have q3 := blk_frozen a2.out
    have hlt : w.heap.size < V.heap.size := blk_lt a0.out
    replace hdep := Lib.hid hdep
    clear z0 z1 f2
    go_wp2
    refine bodyPost_ret (results_ct rfl _ _ w.heap.size 38 #[.int .i64 p.2.id, .slice A2 n2 c2] (0, 0) _ rfl (blk_put (blk_put a2.out 0 _ rfl) 1 _ rfl) Try.underlying38 rfl (by kernel_rfl)) rfl ?_
    refine ⟨(P2.setCell (Nat.le_refl _) _).setCell (Nat.le_refl _) _, .inr ⟨p.2, t.map Prod.snd, A2, n2, c2, rfl, rfl, Dep.wide (B := V.heap.size) (E := W2.heap.size) (hdep.out.move (fun k h0 h1 => ?_)) (Nat.le_of_lt hlt) (by simp [World.setCell]), hd1, hd2⟩⟩
    exact (Below.heap_setCell _ ⟨w.heap.size, 1, none⟩ _ k (by show k ≠ w.heap.size; omega)).trans (Below.heap_setCell _ ⟨w.heap.size, 0, none⟩ _ k (by show k ≠ w.heap.size; omega))
end Go.Proofs.Ytegkclehijdbiaa.LB
