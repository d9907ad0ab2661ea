import Derived.Test.YtmipifokpogpbaaR5
namespace Go.Proofs.Ytmipifokpogpbaa.R6
open Go.RowKit Go.Proofs.YtmipifokpogpbaaW.PrintWords Go.Proofs.Ytmipifokpogpbaa.M Go.Proofs.Ytmipifokpogpbaa.R1 Go.Proofs.Ytmipifokpogpbaa.R2 Go.Proofs.Ytmipifokpogpbaa.R3 Go.Proofs.Ytmipifokpogpbaa.R4 Go.Proofs.Ytmipifokpogpbaa.R5

def inR (x : Int) : Bool := decide (-9223372036854775808 ≤ x) && decide (x ≤ 9223372036854775807)
def smV (x : Int) : Int := if inR x = true then x else 0
theorem inR_yes {x : Int} (h : -9223372036854775808 ≤ x) (h' : x ≤ 9223372036854775807) : inR x = true := by simp [inR, h, h']
theorem smV_yes {x : Int} (h : inR x = true) : smV x = x := if_pos h
theorem smV_no {x : Int} (h : inR x = false) : smV x = 0 := if_neg (by simp [h])
theorem drop_le {l : List Int} (h : Dg l) (k : Nat) : val (l.drop k) ≤ val l := by
  induction l generalizing k with
  | nil => simp
  | cons d l ih =>
    cases k with
    | zero => simp
    | succ k =>
      have h1 := ih h.cons.2 k
      have h2 := h.cons.1
      have h3 := val_nonneg h.cons.2
      simp only [List.drop_succ_cons, val]
      omega
theorem val_drop (l : List Int) (k : Nat) (hk : k < l.length) : val (l.drop k) = rd l k + 10 * val (l.drop (k + 1)) := by
  rw [List.drop_eq_getElem_cons hk, val, rd_getD, List.getD_eq_getElem?_getD, List.getElem?_eq_getElem hk]; rfl
theorem dg_drop {l : List Int} (h : Dg l) (k : Nat) : Dg (l.drop k) := fun x hx => h x (List.mem_of_mem_drop hx)
/-- What Small answers. -/
def SmR (w : World) (x : Int) (e : Ending) (w' : World) : Prop := e = .returned (.tuple #[.int .i64 (smV x), .bool (inR x)]) ∧ Below w.heap.size w w'

set_option maxHeartbeats 2000000 in
theorem small_pos_in (A : Option Addr) (c : Nat) (ds : List Int) (x : Int) (w : World) (hr : ReadsInt w .i64 A ds.length ds) (h3 : Nm false ds x) (hn : ds.length ≤ 1000000) (hx : val ds ≤ 9223372036854775807) :
    Calls Try.prog 36 #[.agg #[.bool false, .slice A ds.length c]] w (SmR w x) := by
  have hxe := h3.eq
  simp at hxe
  have hin := Lib.hid (show inR x = true by exact inR_yes (by have := val_nonneg h3.dg; omega) (by have := val_nonneg h3.dg; omega))
  have hsm := Lib.hid (show smV x = val ds by rw [smV_yes hin.out, hxe])
  have Hxe := Lib.hid hxe
  have Hx := Lib.hid hx
  clear hxe hx
  go_enter Try.func36, Try.ntmps36
  have g0 : (w.alloc (.cells #[.bool false, .slice A ds.length c] 29)).heap[w.heap.size]? = some (.cells #[.bool false, .slice A ds.length c] 29 (0, 0)) := get_new _ _ _ rfl
  have G0 := Lib.hid g0
  clear g0
  have hB0 : Below w.heap.size w (w.alloc (.cells #[.bool false, .slice A ds.length c] 29)) := by go_grown
  have hz0 : w.heap.size < (w.alloc (.cells #[.bool false, .slice A ds.length c] 29)).heap.size := by simp
  go_wp2_with fail
  generalize w.alloc (.cells #[.bool false, .slice A ds.length c] 29) = W0 at *
  (with_reducible refine (of_ 9223372036854775807 _ (by omega) (by omega)).mono ?_)
  rintro e W1 ⟨_, rfl, ⟨n1, A1, c1, d1, rfl, hr1, l1, m1, hx1⟩, hB1⟩
  have hb1 : W1.heap[w.heap.size]? = some (.cells #[.bool false, .slice A ds.length c] 29 (0, 0)) := (hB1.block _ hz0).trans G0.out
  have hz1 : W0.heap.size ≤ W1.heap.size := hB1.size
  have e0 : W1.cell? ⟨w.heap.size, 0, none⟩ = some (.bool false) := (blk_cell hb1 0).trans rfl
  have e1 : W1.cell? ⟨w.heap.size, 1, none⟩ = some (.slice A ds.length c) := (blk_cell hb1 1).trans rfl
  have hlt : w.heap.size < W1.heap.size := by omega
  have Hb1 := Lib.hid hb1
  clear hb1
  have hv1 := Lib.hid (show val d1 = 9223372036854775807 by have := hx1.abs; simpa using this)
  have hl1 := hx1.len (n := 30) (by omega) (by omega)
  have hd1 := hx1.dg
  have hc1 := hx1.can
  clear hx1
  go_wp2_with fail
  have hBS : Below w.heap.size w (W1.alloc (.cells #[.bool n1, .slice A1 d1.length c1] 29)) := hB0.trans (Below.trans (hB1.mono (by omega)) (by go_grown))
  have hrS := hr.below hBS
  have hrT : ReadsInt (W1.alloc (.cells #[.bool n1, .slice A1 d1.length c1] 29)) .i64 A1 d1.length d1 := hr1.below (by go_grown)
  have k0 : (W1.alloc (.cells #[.bool n1, .slice A1 d1.length c1] 29)).cell? ⟨w.heap.size, 0, none⟩ = some (.bool false) := by go_simp
  have k1 : (W1.alloc (.cells #[.bool n1, .slice A1 d1.length c1] 29)).cell? ⟨w.heap.size, 1, none⟩ = some (.slice A ds.length c) := by go_simp
  generalize W1.alloc (.cells #[.bool n1, .slice A1 d1.length c1] 29) = W3 at *
  (with_reducible refine (less_ A1 A _ _ _ _ d1 ds _ hrT hrS hd1 h3.dg hc1 h3.can (by omega) hn).mono ?_)
  rintro e w9 ⟨rfl, q, rfl⟩
  rw [show decide (val d1 < val ds) = false by have := hv1.out; have := Hx.out; simp; omega]
  go_wp2
  go_loop [5, 6] (fun u i => ∃ k : Nat, k ≤ ds.length ∧ i = .int .i64 ((k : Int) - 1) ∧ u = .int .u64 (val (ds.drop k))) (fun _ i => (intOf i + 1).toNat)
  case atStart => exact ⟨ds.length, by omega, rfl, by rw [List.drop_eq_nil_of_le (by omega)]; rfl⟩
  case round =>
    obtain ⟨k, hk, rfl, rfl⟩ := hrel
    rcases k with _ | k
    · have hfin := Lib.hid (show val (ds.drop 0) = val ds by rw [List.drop_zero])
      have p0 := val_nonneg h3.dg
      have p1 := Hx.out
      rw [hfin.out]
      skip
      go_wp2
      go_ret2
      exact ⟨by rw [hsm.out, hin.out]; rfl, pw_below_drewN hBS q⟩
    · have hw1 : ((k + 1 : Nat) : Int) - 1 = (k : Int) := by omega
      rw [hw1]
      clear hw1
      obtain ⟨ad, rfl, hcx⟩ := hrS.at_ k (by omega) (by omega)
      rw [Int.toNat_natCast] at hcx
      have q0 : (0 : Int) ≤ (k : Int) := by omega
      have q1 : (k : Int) < (ds.length : Int) := by omega
      have hvd := Lib.hid (val_drop ds k (by omega))
      have p0 := val_nonneg (dg_drop h3.dg (k + 1))
      have p1 := drop_le h3.dg k
      have p2 := h3.dg.get k
      rw [← rd_getD] at p2
      obtain ⟨p3, p4⟩ := p2
      have p5 : rd ds k + 10 * val (ds.drop (k + 1)) ≤ 9223372036854775808 := by have := hvd.out; have := Hx.out; omega
      clear p1
      go_wp2
      go_round
      case rel => exact ⟨k, by omega, rfl, by rw [hvd.out]; go_num⟩
      case measure => simp [intOf] <;> omega

set_option maxHeartbeats 2000000 in
theorem small_pos_out (A : Option Addr) (c : Nat) (ds : List Int) (x : Int) (w : World) (hr : ReadsInt w .i64 A ds.length ds) (h3 : Nm false ds x) (hn : ds.length ≤ 1000000) (hx : 9223372036854775807 < val ds) :
    Calls Try.prog 36 #[.agg #[.bool false, .slice A ds.length c]] w (SmR w x) := by
  have hxe := h3.eq
  simp at hxe
  have hin := Lib.hid (show inR x = false by simp [inR]; intro; omega)
  have hsm := Lib.hid (show smV x = 0 by exact smV_no hin.out)
  have Hxe := Lib.hid hxe
  have Hx := Lib.hid hx
  clear hxe hx
  go_enter Try.func36, Try.ntmps36
  have g0 : (w.alloc (.cells #[.bool false, .slice A ds.length c] 29)).heap[w.heap.size]? = some (.cells #[.bool false, .slice A ds.length c] 29 (0, 0)) := get_new _ _ _ rfl
  have G0 := Lib.hid g0
  clear g0
  have hB0 : Below w.heap.size w (w.alloc (.cells #[.bool false, .slice A ds.length c] 29)) := by go_grown
  have hz0 : w.heap.size < (w.alloc (.cells #[.bool false, .slice A ds.length c] 29)).heap.size := by simp
  go_wp2_with fail
  generalize w.alloc (.cells #[.bool false, .slice A ds.length c] 29) = W0 at *
  (with_reducible refine (of_ 9223372036854775807 _ (by omega) (by omega)).mono ?_)
  rintro e W1 ⟨_, rfl, ⟨n1, A1, c1, d1, rfl, hr1, l1, m1, hx1⟩, hB1⟩
  have hb1 : W1.heap[w.heap.size]? = some (.cells #[.bool false, .slice A ds.length c] 29 (0, 0)) := (hB1.block _ hz0).trans G0.out
  have hz1 : W0.heap.size ≤ W1.heap.size := hB1.size
  have e0 : W1.cell? ⟨w.heap.size, 0, none⟩ = some (.bool false) := (blk_cell hb1 0).trans rfl
  have e1 : W1.cell? ⟨w.heap.size, 1, none⟩ = some (.slice A ds.length c) := (blk_cell hb1 1).trans rfl
  have hlt : w.heap.size < W1.heap.size := by omega
  have Hb1 := Lib.hid hb1
  clear hb1
  have hv1 := Lib.hid (show val d1 = 9223372036854775807 by have := hx1.abs; simpa using this)
  have hl1 := hx1.len (n := 30) (by omega) (by omega)
  have hd1 := hx1.dg
  have hc1 := hx1.can
  clear hx1
  go_wp2_with fail
  have hBS : Below w.heap.size w (W1.alloc (.cells #[.bool n1, .slice A1 d1.length c1] 29)) := hB0.trans (Below.trans (hB1.mono (by omega)) (by go_grown))
  have hrS := hr.below hBS
  have hrT : ReadsInt (W1.alloc (.cells #[.bool n1, .slice A1 d1.length c1] 29)) .i64 A1 d1.length d1 := hr1.below (by go_grown)
  have k0 : (W1.alloc (.cells #[.bool n1, .slice A1 d1.length c1] 29)).cell? ⟨w.heap.size, 0, none⟩ = some (.bool false) := by go_simp
  have k1 : (W1.alloc (.cells #[.bool n1, .slice A1 d1.length c1] 29)).cell? ⟨w.heap.size, 1, none⟩ = some (.slice A ds.length c) := by go_simp
  generalize W1.alloc (.cells #[.bool n1, .slice A1 d1.length c1] 29) = W3 at *
  (with_reducible refine (less_ A1 A _ _ _ _ d1 ds _ hrT hrS hd1 h3.dg hc1 h3.can (by omega) hn).mono ?_)
  rintro e w9 ⟨rfl, q, rfl⟩
  rw [show decide (val d1 < val ds) = true by have := hv1.out; have := Hx.out; simp; omega]
  go_wp2
  go_ret2
  exact ⟨by rw [hsm.out, hin.out]; rfl, pw_below_drewN hBS q⟩

set_option maxHeartbeats 2000000 in
theorem small_neg_in (A : Option Addr) (c : Nat) (ds : List Int) (x : Int) (w : World) (hr : ReadsInt w .i64 A ds.length ds) (h3 : Nm true ds x) (hn : ds.length ≤ 1000000) (hx : val ds ≤ 9223372036854775808) :
    Calls Try.prog 36 #[.agg #[.bool true, .slice A ds.length c]] w (SmR w x) := by
  have hxe := h3.eq
  simp at hxe
  have hin := Lib.hid (show inR x = true by exact inR_yes (by have := val_nonneg h3.dg; omega) (by have := val_nonneg h3.dg; omega))
  have hsm := Lib.hid (show smV x = -val ds by rw [smV_yes hin.out, hxe])
  have Hxe := Lib.hid hxe
  have Hx := Lib.hid hx
  clear hxe hx
  go_enter Try.func36, Try.ntmps36
  have g0 : (w.alloc (.cells #[.bool true, .slice A ds.length c] 29)).heap[w.heap.size]? = some (.cells #[.bool true, .slice A ds.length c] 29 (0, 0)) := get_new _ _ _ rfl
  have G0 := Lib.hid g0
  clear g0
  have hB0 : Below w.heap.size w (w.alloc (.cells #[.bool true, .slice A ds.length c] 29)) := by go_grown
  have hz0 : w.heap.size < (w.alloc (.cells #[.bool true, .slice A ds.length c] 29)).heap.size := by simp
  go_wp2_with fail
  generalize w.alloc (.cells #[.bool true, .slice A ds.length c] 29) = W0 at *
  (with_reducible refine (of_ 9223372036854775807 _ (by omega) (by omega)).mono ?_)
  rintro e W1 ⟨_, rfl, ⟨n1, A1, c1, d1, rfl, hr1, l1, m1, hx1⟩, hB1⟩
  have hb1 : W1.heap[w.heap.size]? = some (.cells #[.bool true, .slice A ds.length c] 29 (0, 0)) := (hB1.block _ hz0).trans G0.out
  have hz1 : W0.heap.size ≤ W1.heap.size := hB1.size
  have e0 : W1.cell? ⟨w.heap.size, 0, none⟩ = some (.bool true) := (blk_cell hb1 0).trans rfl
  have e1 : W1.cell? ⟨w.heap.size, 1, none⟩ = some (.slice A ds.length c) := (blk_cell hb1 1).trans rfl
  have hlt : w.heap.size < W1.heap.size := by omega
  have Hb1 := Lib.hid hb1
  clear hb1
  have hv1 := Lib.hid (show val d1 = 9223372036854775807 by have := hx1.abs; simpa using this)
  have hl1 := hx1.len (n := 30) (by omega) (by omega)
  have hd1 := hx1.dg
  have hc1 := hx1.can
  clear hx1
  go_wp2_with fail
  have G1 : Hid ((W1.alloc (.cells #[.bool n1, .slice A1 d1.length c1] 29)).heap[W1.heap.size]? = some (.cells #[.bool n1, .slice A1 d1.length c1] 29 (0, 0))) := get_new _ _ _ rfl
  have H1 : Hid ((W1.alloc (.cells #[.bool n1, .slice A1 d1.length c1] 29)).heap[w.heap.size]? = some (.cells #[.bool true, .slice A ds.length c] 29 (0, 0))) := (get_old _ _ _ hlt).trans Hb1.out
  (with_reducible refine (of_ (-9223372036854775808) _ (by omega) (by omega)).mono ?_)
  rintro e W2 ⟨_, rfl, ⟨n2, A2, c2, d2, rfl, hr2, l2, m2, hx2⟩, hB2⟩
  have hz2 : W1.heap.size + 1 ≤ W2.heap.size := by have := hB2.size; simpa using this
  have hb2 : W2.heap[w.heap.size]? = some (.cells #[.bool true, .slice A ds.length c] 29 (0, 0)) := (hB2.block _ (by simp; omega)).trans H1.out
  have hb3 : W2.heap[W1.heap.size]? = some (.cells #[.bool n1, .slice A1 d1.length c1] 29 (0, 0)) := (hB2.block _ (by simp)).trans G1.out
  have e2 : W2.cell? ⟨w.heap.size, 0, none⟩ = some (.bool true) := (blk_cell hb2 0).trans rfl
  have e3 : W2.cell? ⟨w.heap.size, 1, none⟩ = some (.slice A ds.length c) := (blk_cell hb2 1).trans rfl
  have e4 : W2.cell? ⟨W1.heap.size, 0, none⟩ = some (.bool n1) := (blk_cell hb3 0).trans rfl
  have e5 : W2.cell? ⟨W1.heap.size, 1, none⟩ = some (.slice A1 d1.length c1) := (blk_cell hb3 1).trans rfl
  have e6 := blk_frozen hb3
  have hv2 := Lib.hid (show val d2 = 9223372036854775808 by have := hx2.abs; simpa using this)
  have hl2 := hx2.len (n := 30) (by omega) (by omega)
  have hd2 := hx2.dg
  have hc2 := hx2.can
  have hBt : Below w.heap.size w W2 := hB0.trans ((hB1.mono (by omega)).trans (Below.trans (by go_grown) (hB2.mono (by simp; omega))))
  have hne : ¬ (W1.heap.size = w.heap.size) := by omega
  clear hx2 e0 e1 hb2 hb3
  go_wp2_with fail
  have hru : ReadsInt W2 .i64 A ds.length ds := hr.below hBt
  have hrS : ReadsInt ((W2.setCell ⟨W1.heap.size, 0, none⟩ (.bool n2)).setCell ⟨W1.heap.size, 1, none⟩ (.slice A2 d2.length c2)) .i64 A ds.length ds := reads_set (u := .slice A1 d1.length c1) (reads_set (u := .bool n1) hru _ e4 (fun q h => by cases h)) _ ((World.cell?_setCell_other _ _ _ _ (by simp)).trans e5) (fun q h => by cases h)
  have hrT : ReadsInt ((W2.setCell ⟨W1.heap.size, 0, none⟩ (.bool n2)).setCell ⟨W1.heap.size, 1, none⟩ (.slice A2 d2.length c2)) .i64 A2 d2.length d2 := reads_set (u := .slice A1 d1.length c1) (reads_set (u := .bool n1) hr2 _ e4 (fun q h => by cases h)) _ ((World.cell?_setCell_other _ _ _ _ (by simp)).trans e5) (fun q h => by cases h)
  have hBS : Below w.heap.size w ((W2.setCell ⟨W1.heap.size, 0, none⟩ (.bool n2)).setCell ⟨W1.heap.size, 1, none⟩ (.slice A2 d2.length c2)) := (hBt.setCell (by simp; omega) _).setCell (by simp; omega) _
  have k0 : ((W2.setCell ⟨W1.heap.size, 0, none⟩ (.bool n2)).setCell ⟨W1.heap.size, 1, none⟩ (.slice A2 d2.length c2)).cell? ⟨w.heap.size, 0, none⟩ = some (.bool true) := (World.cell?_setCell_far _ _ _ _ hne).trans ((World.cell?_setCell_far _ _ _ _ hne).trans e2)
  have k1 : ((W2.setCell ⟨W1.heap.size, 0, none⟩ (.bool n2)).setCell ⟨W1.heap.size, 1, none⟩ (.slice A2 d2.length c2)).cell? ⟨w.heap.size, 1, none⟩ = some (.slice A ds.length c) := (World.cell?_setCell_far _ _ _ _ hne).trans ((World.cell?_setCell_far _ _ _ _ hne).trans e3)
  generalize (W2.setCell ⟨W1.heap.size, 0, none⟩ (.bool n2)).setCell ⟨W1.heap.size, 1, none⟩ (.slice A2 d2.length c2) = W3 at *
  clear e2 e3 e4 e5 e6 hne
  (with_reducible refine (less_ A2 A _ _ _ _ d2 ds _ hrT hrS hd2 h3.dg hc2 h3.can (by omega) hn).mono ?_)
  rintro e w9 ⟨rfl, q, rfl⟩
  rw [show decide (val d2 < val ds) = false by have := hv2.out; have := Hx.out; simp; omega]
  go_wp2
  go_loop [5, 6] (fun u i => ∃ k : Nat, k ≤ ds.length ∧ i = .int .i64 ((k : Int) - 1) ∧ u = .int .u64 (val (ds.drop k))) (fun _ i => (intOf i + 1).toNat)
  case atStart => exact ⟨ds.length, by omega, rfl, by rw [List.drop_eq_nil_of_le (by omega)]; rfl⟩
  case round =>
    obtain ⟨k, hk, rfl, rfl⟩ := hrel
    rcases k with _ | k
    · have hfin := Lib.hid (show val (ds.drop 0) = val ds by rw [List.drop_zero])
      have p0 := val_nonneg h3.dg
      have p1 := Hx.out
      rw [hfin.out]
      have ew : wrap64 (IntKind.u64.wrap (-val ds)) = -val ds := by simp only [IntKind.wrap_u64, wrap64]; omega
      go_wp2
      go_ret2
      exact ⟨by rw [hsm.out, hin.out]; rfl, pw_below_drewN hBS q⟩
    · have hw1 : ((k + 1 : Nat) : Int) - 1 = (k : Int) := by omega
      rw [hw1]
      clear hw1
      obtain ⟨ad, rfl, hcx⟩ := hrS.at_ k (by omega) (by omega)
      rw [Int.toNat_natCast] at hcx
      have q0 : (0 : Int) ≤ (k : Int) := by omega
      have q1 : (k : Int) < (ds.length : Int) := by omega
      have hvd := Lib.hid (val_drop ds k (by omega))
      have p0 := val_nonneg (dg_drop h3.dg (k + 1))
      have p1 := drop_le h3.dg k
      have p2 := h3.dg.get k
      rw [← rd_getD] at p2
      obtain ⟨p3, p4⟩ := p2
      have p5 : rd ds k + 10 * val (ds.drop (k + 1)) ≤ 9223372036854775808 := by have := hvd.out; have := Hx.out; omega
      clear p1
      go_wp2
      go_round
      case rel => exact ⟨k, by omega, rfl, by rw [hvd.out]; go_num⟩
      case measure => simp [intOf] <;> omega

set_option maxHeartbeats 2000000 in
theorem small_neg_out (A : Option Addr) (c : Nat) (ds : List Int) (x : Int) (w : World) (hr : ReadsInt w .i64 A ds.length ds) (h3 : Nm true ds x) (hn : ds.length ≤ 1000000) (hx : 9223372036854775808 < val ds) :
    Calls Try.prog 36 #[.agg #[.bool true, .slice A ds.length c]] w (SmR w x) := by
  have hxe := h3.eq
  simp at hxe
  have hin := Lib.hid (show inR x = false by simp [inR]; intro; omega)
  have hsm := Lib.hid (show smV x = 0 by exact smV_no hin.out)
  have Hxe := Lib.hid hxe
  have Hx := Lib.hid hx
  clear hxe hx
  go_enter Try.func36, Try.ntmps36
  have g0 : (w.alloc (.cells #[.bool true, .slice A ds.length c] 29)).heap[w.heap.size]? = some (.cells #[.bool true, .slice A ds.length c] 29 (0, 0)) := get_new _ _ _ rfl
  have G0 := Lib.hid g0
  clear g0
  have hB0 : Below w.heap.size w (w.alloc (.cells #[.bool true, .slice A ds.length c] 29)) := by go_grown
  have hz0 : w.heap.size < (w.alloc (.cells #[.bool true, .slice A ds.length c] 29)).heap.size := by simp
  go_wp2_with fail
  generalize w.alloc (.cells #[.bool true, .slice A ds.length c] 29) = W0 at *
  (with_reducible refine (of_ 9223372036854775807 _ (by omega) (by omega)).mono ?_)
  rintro e W1 ⟨_, rfl, ⟨n1, A1, c1, d1, rfl, hr1, l1, m1, hx1⟩, hB1⟩
  have hb1 : W1.heap[w.heap.size]? = some (.cells #[.bool true, .slice A ds.length c] 29 (0, 0)) := (hB1.block _ hz0).trans G0.out
  have hz1 : W0.heap.size ≤ W1.heap.size := hB1.size
  have e0 : W1.cell? ⟨w.heap.size, 0, none⟩ = some (.bool true) := (blk_cell hb1 0).trans rfl
  have e1 : W1.cell? ⟨w.heap.size, 1, none⟩ = some (.slice A ds.length c) := (blk_cell hb1 1).trans rfl
  have hlt : w.heap.size < W1.heap.size := by omega
  have Hb1 := Lib.hid hb1
  clear hb1
  have hv1 := Lib.hid (show val d1 = 9223372036854775807 by have := hx1.abs; simpa using this)
  have hl1 := hx1.len (n := 30) (by omega) (by omega)
  have hd1 := hx1.dg
  have hc1 := hx1.can
  clear hx1
  go_wp2_with fail
  have G1 : Hid ((W1.alloc (.cells #[.bool n1, .slice A1 d1.length c1] 29)).heap[W1.heap.size]? = some (.cells #[.bool n1, .slice A1 d1.length c1] 29 (0, 0))) := get_new _ _ _ rfl
  have H1 : Hid ((W1.alloc (.cells #[.bool n1, .slice A1 d1.length c1] 29)).heap[w.heap.size]? = some (.cells #[.bool true, .slice A ds.length c] 29 (0, 0))) := (get_old _ _ _ hlt).trans Hb1.out
  (with_reducible refine (of_ (-9223372036854775808) _ (by omega) (by omega)).mono ?_)
  rintro e W2 ⟨_, rfl, ⟨n2, A2, c2, d2, rfl, hr2, l2, m2, hx2⟩, hB2⟩
  have hz2 : W1.heap.size + 1 ≤ W2.heap.size := by have := hB2.size; simpa using this
  have hb2 : W2.heap[w.heap.size]? = some (.cells #[.bool true, .slice A ds.length c] 29 (0, 0)) := (hB2.block _ (by simp; omega)).trans H1.out
  have hb3 : W2.heap[W1.heap.size]? = some (.cells #[.bool n1, .slice A1 d1.length c1] 29 (0, 0)) := (hB2.block _ (by simp)).trans G1.out
  have e2 : W2.cell? ⟨w.heap.size, 0, none⟩ = some (.bool true) := (blk_cell hb2 0).trans rfl
  have e3 : W2.cell? ⟨w.heap.size, 1, none⟩ = some (.slice A ds.length c) := (blk_cell hb2 1).trans rfl
  have e4 : W2.cell? ⟨W1.heap.size, 0, none⟩ = some (.bool n1) := (blk_cell hb3 0).trans rfl
  have e5 : W2.cell? ⟨W1.heap.size, 1, none⟩ = some (.slice A1 d1.length c1) := (blk_cell hb3 1).trans rfl
  have e6 := blk_frozen hb3
  have hv2 := Lib.hid (show val d2 = 9223372036854775808 by have := hx2.abs; simpa using this)
  have hl2 := hx2.len (n := 30) (by omega) (by omega)
  have hd2 := hx2.dg
  have hc2 := hx2.can
  have hBt : Below w.heap.size w W2 := hB0.trans ((hB1.mono (by omega)).trans (Below.trans (by go_grown) (hB2.mono (by simp; omega))))
  have hne : ¬ (W1.heap.size = w.heap.size) := by omega
  clear hx2 e0 e1 hb2 hb3
  go_wp2_with fail
  have hru : ReadsInt W2 .i64 A ds.length ds := hr.below hBt
  have hrS : ReadsInt ((W2.setCell ⟨W1.heap.size, 0, none⟩ (.bool n2)).setCell ⟨W1.heap.size, 1, none⟩ (.slice A2 d2.length c2)) .i64 A ds.length ds := reads_set (u := .slice A1 d1.length c1) (reads_set (u := .bool n1) hru _ e4 (fun q h => by cases h)) _ ((World.cell?_setCell_other _ _ _ _ (by simp)).trans e5) (fun q h => by cases h)
  have hrT : ReadsInt ((W2.setCell ⟨W1.heap.size, 0, none⟩ (.bool n2)).setCell ⟨W1.heap.size, 1, none⟩ (.slice A2 d2.length c2)) .i64 A2 d2.length d2 := reads_set (u := .slice A1 d1.length c1) (reads_set (u := .bool n1) hr2 _ e4 (fun q h => by cases h)) _ ((World.cell?_setCell_other _ _ _ _ (by simp)).trans e5) (fun q h => by cases h)
  have hBS : Below w.heap.size w ((W2.setCell ⟨W1.heap.size, 0, none⟩ (.bool n2)).setCell ⟨W1.heap.size, 1, none⟩ (.slice A2 d2.length c2)) := (hBt.setCell (by simp; omega) _).setCell (by simp; omega) _
  have k0 : ((W2.setCell ⟨W1.heap.size, 0, none⟩ (.bool n2)).setCell ⟨W1.heap.size, 1, none⟩ (.slice A2 d2.length c2)).cell? ⟨w.heap.size, 0, none⟩ = some (.bool true) := (World.cell?_setCell_far _ _ _ _ hne).trans ((World.cell?_setCell_far _ _ _ _ hne).trans e2)
  have k1 : ((W2.setCell ⟨W1.heap.size, 0, none⟩ (.bool n2)).setCell ⟨W1.heap.size, 1, none⟩ (.slice A2 d2.length c2)).cell? ⟨w.heap.size, 1, none⟩ = some (.slice A ds.length c) := (World.cell?_setCell_far _ _ _ _ hne).trans ((World.cell?_setCell_far _ _ _ _ hne).trans e3)
  generalize (W2.setCell ⟨W1.heap.size, 0, none⟩ (.bool n2)).setCell ⟨W1.heap.size, 1, none⟩ (.slice A2 d2.length c2) = W3 at *
  clear e2 e3 e4 e5 e6 hne
  (with_reducible refine (less_ A2 A _ _ _ _ d2 ds _ hrT hrS hd2 h3.dg hc2 h3.can (by omega) hn).mono ?_)
  rintro e w9 ⟨rfl, q, rfl⟩
  rw [show decide (val d2 < val ds) = true by have := hv2.out; have := Hx.out; simp; omega]
  go_wp2
  go_ret2
  exact ⟨by rw [hsm.out, hin.out]; rfl, pw_below_drewN hBS q⟩

/-- An int64, if it isn't beyond. -/
theorem small (v : Value) (x : Int) (w : World) (h : Num w v x) (hx : -10 ^ 1000000 < x) (hx' : x < 10 ^ 1000000) : Calls Try.prog 36 #[v] w (SmR w x) := by
  obtain ⟨neg, A, c, ds, rfl, hr, h1, h2, h3⟩ := h
  have hl := h3.len hx hx'
  cases neg with
  | false =>
    rcases Int.lt_or_le 9223372036854775807 (val ds) with h | h
    · exact small_pos_out A c ds x w hr h3 hl h
    · exact small_pos_in A c ds x w hr h3 hl h
  | true =>
    rcases Int.lt_or_le 9223372036854775808 (val ds) with h | h
    · exact small_neg_out A c ds x w hr h3 hl h
    · exact small_neg_in A c ds x w hr h3 hl h
end Go.Proofs.Ytmipifokpogpbaa.R6
