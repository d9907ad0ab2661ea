import Derived.Test.YtegkclehijdbiaaMA
import Derived.Test.YtegkclehijdbiaaMN
import Derived.Handy
import Derived.Lib.Hide
import Derived.Deep.DeepCutAuto
import Derived.Deep.CutBlock
import Derived.Deep.LoopGhost
set_option linter.unusedSimpArgs false
set_option linter.unusedVariables false
namespace Go.Proofs.Ytegkclehijdbiaa.CA
open Go.RowKit Go.Proofs.YtegkclehijdbiaaW.PrintWords Go.Proofs.YtegkclehijdbiaaW.PrintLast Go.Proofs.Ytegkclehijdbiaa.V1 Go.Proofs.Ytegkclehijdbiaa.V3 Go.Proofs.Ytegkclehijdbiaa.N1 Go.Proofs.Ytegkclehijdbiaa.N2

/-- Bytes in memory. -/
def atU (w : World) (g o : Nat) (c : UInt8) : Prop := w.cell? ⟨g, o, none⟩ = some (.int .u8 (c.toNat : Int))
theorem atU.below {w w' : World} {g o : Nat} {v : UInt8} (h : atU w g o v) (hb : Below w.heap.size w w') : atU w' g o v := pw_cell_below hb h
abbrev RdU := Rd 1 atU
theorem rdU_below {w w' : World} {A : Option Addr} {n : Nat} {l : List UInt8} (h : RdU w A n l) (hb : Below w.heap.size w w') : RdU w' A n l := Rd.below (P := atU) (fun h hb => atU.below h hb) h hb
theorem rdU_nil (w : World) (A : Option Addr) : RdU w A 0 [] := ⟨rfl, by omega, fun h => absurd h (by omega)⟩
/-- A reader at block g: bad, or what is to come. -/
def Rs (w : World) (g : Nat) (st : Option (List UInt8)) : Prop := ∃ A n c, w.heap[g]? = some (.cells #[.slice A n c, .bool st.isNone] 130 (0, 0)) ∧ RdU w A n (st.getD []) ∧ n ≤ c ∧ c ≤ 9223372036854775807 ∧ (A = none → c = 0) ∧ ∀ ad, A = some ad → ad.block < g
theorem Rs.below {w w' : World} {g : Nat} {st : Option (List UInt8)} (h : Rs w g st) (hb : Below w.heap.size w w') : Rs w' g st := by
  obtain ⟨A, n, c, e, h1, h2, h3⟩ := h
  exact ⟨A, n, c, (hb.block _ (blk_lt e)).trans e, rdU_below h1 hb, h2, h3⟩
theorem Rs.lt {w : World} {g : Nat} {st : Option (List UInt8)} (h : Rs w g st) : g < w.heap.size := by
  obtain ⟨A, n, c, e, _⟩ := h
  exact blk_lt e
/-- Bytes are not in the reader's block. -/
theorem rdU_set {w : World} {g n : Nat} {B A : Option Addr} {m c : Nat} {b : Bool} {l : List UInt8} (h : RdU w B n l) (hg : w.heap[g]? = some (.cells #[.slice A m c, .bool b] 130 (0, 0))) (j : Nat) (u : Value) : RdU (w.setCell ⟨g, j, none⟩ u) B n l := by
  refine ⟨h.1, h.2.1, fun hn => ?_⟩
  obtain ⟨g', o, e, hc⟩ := h.2.2 hn
  refine ⟨g', o, e, fun i hi => ?_⟩
  have c0 := hc i hi
  have hne : g ≠ g' := by
    rintro rfl
    unfold atU at c0
    rw [blk_cell hg] at c0
    have h1 := (Array.getElem?_eq_some_iff.1 c0).1
    simp at h1
    rcases (show o + i * 1 = 0 ∨ o + i * 1 = 1 by omega) with h0 | h0
    · rw [h0] at c0; simp at c0
    · rw [h0] at c0; simp at c0
  exact (World.cell?_setCell_far _ _ _ _ hne).trans c0
theorem Rd.drop {α : Type} [Inhabited α] {P : World → Nat → Nat → α → Prop} {w : World} {g o n : Nat} {l : List α} (h : Rd 1 P w (some ⟨g, o, none⟩) n l) (k : Nat) (hk : k ≤ n) : Rd 1 P w (some ⟨g, o + k, none⟩) (n - k) (l.drop k) := by
  refine ⟨by rw [List.length_drop, h.1], by have := h.2.1; omega, fun hn => ⟨g, o + k, rfl, fun i hi => ?_⟩⟩
  obtain ⟨g', o', e, hc⟩ := h.2.2 (by omega)
  cases e
  have := hc (k + i) (by omega)
  have e2 : el (l.drop k) i = el l (k + i) := by simp [el, List.getD]
  rw [e2, Nat.add_assoc, show k + i * 1 = (k + i) * 1 by omega]
  exact this
theorem Rd.take {α : Type} [Inhabited α] {sz : Nat} {P : World → Nat → Nat → α → Prop} {w : World} {A : Option Addr} {n : Nat} {l : List α} (h : Rd sz P w A n l) (k : Nat) (hk : k ≤ n) : Rd sz P w A k (l.take k) := by
  refine ⟨by rw [List.length_take, h.1]; omega, by have := h.2.1; omega, fun hn => ?_⟩
  obtain ⟨g', o', e, hc⟩ := h.2.2 (by omega)
  refine ⟨g', o', e, fun i hi => ?_⟩
  have e2 : el (l.take k) i = el l i := by
    simp only [el, List.getD, List.getElem?_take]
    rw [if_pos hi]
  rw [e2]; exact hc i (by omega)
/-- Of the world nothing has turned but block g. -/
structure Keep1 (g : Nat) (w w' : World) : Prop where
  os : w'.os = w.os
  tape : w'.tape = w.tape
  output : w'.output = w.output
  size : w.heap.size ≤ w'.heap.size
  block : ∀ k, k < w.heap.size → k ≠ g → w'.heap[k]? = w.heap[k]?
theorem Keep1.refl (g : Nat) (w : World) : Keep1 g w w := ⟨rfl, rfl, rfl, Nat.le_refl _, fun _ _ _ => rfl⟩
theorem Keep1.trans {g : Nat} {a b c : World} (h : Keep1 g a b) (k : Keep1 g b c) : Keep1 g a c :=
  ⟨k.os.trans h.os, k.tape.trans h.tape, k.output.trans h.output, Nat.le_trans h.size k.size, fun i hi hg => (k.block i (Nat.lt_of_lt_of_le hi h.size) hg).trans (h.block i hi hg)⟩
theorem Keep1.below {g : Nat} {a b : World} (h : Below a.heap.size a b) : Keep1 g a b := ⟨h.os, h.tape, h.output, h.size, fun i hi _ => h.block i hi⟩
theorem Keep1.set_ {g : Nat} {a b : World} (h : Keep1 g a b) (j : Nat) (u : Value) : Keep1 g a (b.setCell ⟨g, j, none⟩ u) :=
  ⟨h.os, h.tape, h.output, by simpa [World.setCell] using h.size, fun i hi hg => (Below.heap_setCell b ⟨g, j, none⟩ u i hg).trans (h.block i hi hg)⟩
theorem Keep1.to_below {g : Nat} {B : Nat} {a b : World} (h : Keep1 g a b) (hg : B ≤ g) (hB : B ≤ a.heap.size) : Below B a b := ⟨h.os, h.tape, h.output, h.size, fun i hi => h.block i (by omega) (by omega)⟩

/-- What a reader's method leaves: its result, the reader, and the world but for it. -/
def StS (w : World) (g : Nat) (r : Value) (st : Option (List UInt8)) (e : Ending) (w' : World) : Prop := e = .returned r ∧ Rs w' g st ∧ Keep1 g w w'
set_option maxHeartbeats 400000 in
theorem good52 (g : Nat) (st : Option (List UInt8)) (w : World) (h : Rs w g st) : Calls Try.prog 52 #[.pointer (some ⟨g, 0, none⟩)] w fun e w' => e = .returned (.bool st.isSome) ∧ w = w' := by
  obtain ⟨A, n, c, e, _⟩ := h
  have f1 : w.cell? ⟨g, 1, none⟩ = some (.bool st.isNone) := (blk_cell e 1).trans rfl
  clear e
  cases st with
  | none =>
    dsimp only [Option.isNone] at f1
    go_enter Try.func52, Try.ntmps52
    go_wp2
    go_ret
    exact ⟨rfl, rfl⟩
  | some l =>
    dsimp only [Option.isNone] at f1
    go_enter Try.func52, Try.ntmps52
    go_wp2
    go_ret
    exact ⟨rfl, rfl⟩
set_option maxHeartbeats 400000 in
theorem fail87 (g : Nat) (st : Option (List UInt8)) (w : World) (h : Rs w g st) : Calls Try.prog 87 #[.pointer (some ⟨g, 0, none⟩)] w (StS w g (.tuple #[]) none) := by
  obtain ⟨A, n, c, e, hr, h1, h2, _⟩ := h
  have f0 : w.cell? ⟨g, 0, none⟩ = some (.slice A n c) := (blk_cell e 0).trans rfl
  have f1 : w.cell? ⟨g, 1, none⟩ = some (.bool st.isNone) := (blk_cell e 1).trans rfl
  have q := blk_frozen e
  have E := Lib.hid e
  clear e hr
  go_enter Try.func87, Try.ntmps87
  go_wp2
  go_end0
  exact ⟨rfl, ⟨none, 0, 0, blk_put (blk_put E.out 1 _ rfl) 0 _ rfl, rdU_nil _ _, by omega, by omega, fun _ => rfl, fun _ h => by cases h⟩, ((Keep1.refl g w).set_ 1 _).set_ 0 _⟩
theorem add_block (a : Addr) (k : Nat) : (a.add k).block = a.block := by unfold Addr.add; split <;> rfl
theorem drop_any {w : World} {a : Addr} {m : Nat} {l : List UInt8} (h : RdU w (some a) m l) (k : Nat) (hk : k ≤ m) : RdU w (some (a.add k)) (m - k) (l.drop k) := by
  by_cases h0 : m - k = 0
  · have e : l.drop k = [] := List.eq_nil_of_length_eq_zero (by rw [List.length_drop, h.1]; exact h0)
    rw [h0, e]; exact rdU_nil _ _
  · obtain ⟨g, o, e, hc⟩ := h.2.2 (by omega)
    injection e with e
    subst e
    rw [V1.add_at]
    exact Rd.drop h k hk
theorem drop_all {w : World} {A : Option Addr} {m : Nat} {l : List UInt8} (h : RdU w A m l) : RdU w A 0 (l.drop m) := by
  rw [List.drop_of_length_le (by rw [h.1]; exact Nat.le_refl _)]; exact rdU_nil _ _
/-- So many bytes. -/
def cutS (n : Int) : Option (List UInt8) → Option (List UInt8)
  | none => none
  | some l => if (l.length : Int) < n then none else some (l.drop n.toNat)
/-- What a cut leaves. -/
def CutR (w : World) (g : Nat) (n : Int) (st : Option (List UInt8)) (e : Ending) (w' : World) : Prop :=
  (cutS n st = none ∧ StS w g (.slice none 0 0) none e w') ∨
  ∃ l A m c, st = some l ∧ ¬ (l.length : Int) < n ∧ StS w g (.slice A m c) (some (l.drop n.toNat)) e w' ∧ RdU w' A m (l.take n.toNat) ∧ m = n.toNat ∧ m ≤ c ∧ c ≤ 9223372036854775807
set_option maxHeartbeats 1000000 in
theorem cut90 (g : Nat) (n : Int) (st : Option (List UInt8)) (w : World) (h : Rs w g st) (n0 : 0 ≤ n) (n1 : n ≤ 9223372036854775807) : Calls Try.prog 90 #[.pointer (some ⟨g, 0, none⟩), .int .i64 n] w (CutR w g n st) := by
  have hR := Lib.hid h
  have hgd := Lib.hid (fun W hW => good52 g st W hW)
  obtain ⟨A, m, c, e, hr, h1, h2, hA, hlow⟩ := h
  have hlow := Lib.hid hlow
  have f0 : w.cell? ⟨g, 0, none⟩ = some (.slice A m c) := (blk_cell e 0).trans rfl
  have q := blk_frozen e
  have E := Lib.hid e
  clear e
  cases st with
  | none =>
    clear hr
    go_enter Try.func90, Try.ntmps90
    go_wp2_with fail
    (with_reducible refine (good52 g none _ hR.out).mono ?_)
    rintro e W ⟨rfl, rfl⟩
    dsimp only [Option.isSome]
    clear f0
    go_wp2_with fail
    (with_reducible refine (fail87 g none _ hR.out).mono ?_)
    rintro e W ⟨rfl, hs, hb⟩
    go_wp2
    go_ret
    exact .inl ⟨rfl, rfl, hs, hb⟩
  | some l =>
    have hm : l.length = m := hr.1
    have hlen := hr.2.1
    by_cases hlt : (m : Int) < n
    · go_enter Try.func90, Try.ntmps90
      go_wp2_with fail
      (with_reducible refine (good52 g (some l) _ hR.out).mono ?_)
      rintro e W ⟨rfl, rfl⟩
      dsimp only [Option.isSome]
      have hmm := Lib.hid hm
      clear hm hr
      go_wp2_with fail
      (with_reducible refine (fail87 g (some l) _ hR.out).mono ?_)
      rintro e W ⟨rfl, hs, hb⟩
      have hl := hR.out
      go_wp2
      go_ret
      refine .inl ⟨?_, rfl, hs, hb⟩
      show (if (l.length : Int) < n then none else some (l.drop n.toNat)) = none
      rw [hmm.out, if_pos hlt]
    · obtain ⟨k, rfl⟩ := Int.eq_ofNat_of_zero_le n0
      have hkm : k ≤ m := by omega
      have hmm := Lib.hid hm
      have hr' := Lib.hid hr
      clear hr hm
      have hns : ¬ (l.length : Int) < ((k : Nat) : Int) := by rw [hmm.out]; exact hlt
      have hns := Lib.hid hns
      cases A with
      | none =>
        have hm0 : m = 0 := by
          rcases Nat.eq_zero_or_pos m with h0 | h0
          · exact h0
          · obtain ⟨_, _, e, _⟩ := hr'.out.2.2 h0; cases e
        have hc0 := hA rfl
        subst hm0 hc0
        obtain rfl : k = 0 := by omega
        clear hA
        go_enter Try.func90, Try.ntmps90
        go_wp2_with fail
        (with_reducible refine (good52 g (some l) _ hR.out).mono ?_)
        rintro e W ⟨rfl, rfl⟩
        dsimp only [Option.isSome]
        go_wp2
        go_ret
        refine .inr ⟨l, none, 0, 0, rfl, (by have := hns.out; omega), ⟨rfl, ⟨none, 0, 0, blk_put E.out 0 _ rfl, ?_, by omega, by omega, fun _ => rfl, fun _ h => (by cases h)⟩, (Keep1.refl g _).set_ 0 _⟩, ?_, rfl, by omega, by omega⟩
        · have : l = [] := List.eq_nil_of_length_eq_zero hmm.out
          subst this; exact rdU_nil _ _
        · exact rdU_nil _ _
      | some a =>
        clear hA
        go_enter Try.func90, Try.ntmps90
        go_wp2_with fail
        (with_reducible refine (good52 g (some l) _ hR.out).mono ?_)
        rintro e W ⟨rfl, rfl⟩
        dsimp only [Option.isSome]
        by_cases hck : c = k
        · subst hck
          obtain rfl : m = c := by omega
          go_wp2
          go_ret
          refine .inr ⟨l, some a, m, m, rfl, (by have := hns.out; omega), ⟨rfl, ⟨some a, _, _, blk_put E.out 0 _ rfl, ?_, by omega, by omega, fun h => (by cases h), hlow.out⟩, (Keep1.refl g _).set_ 0 _⟩, ?_, rfl, by omega, by omega⟩
          · exact drop_all (rdU_set hr'.out E.out 0 _)
          · exact Rd.take (rdU_set hr'.out E.out 0 _) m (by omega)
        · go_wp2
          go_ret
          refine .inr ⟨l, some a, k, c, rfl, (by have := hns.out; omega), ⟨rfl, ⟨some (a.add k), m - k, c - k, blk_put E.out 0 _ rfl, ?_, by omega, by omega, fun h => (by cases h), fun ad h => (by injection h with h; rw [← h, add_block]; exact hlow.out a rfl)⟩, (Keep1.refl g _).set_ 0 _⟩, ?_, rfl, by omega, by omega⟩
          · exact drop_any (rdU_set hr'.out E.out 0 _) k hkm
          · exact Rd.take (rdU_set hr'.out E.out 0 _) k hkm
/-- A reader sees nothing above its own block. -/
theorem Rs.low {w w' : World} {g : Nat} {st : Option (List UInt8)} (h : Rs w g st) (hb : Below (g + 1) w w') : Rs w' g st := by
  obtain ⟨A, n, c, e, hr, h1, h2, h3, h4⟩ := h
  refine ⟨A, n, c, (hb.block _ (Nat.lt_succ_self _)).trans e, ⟨hr.1, hr.2.1, fun hn => ?_⟩, h1, h2, h3, h4⟩
  obtain ⟨g', o, e', hc⟩ := hr.2.2 hn
  refine ⟨g', o, e', fun i hi => ?_⟩
  have := h4 _ e'
  exact (hb.cell (p := ⟨g', o + i * 1, none⟩) (by show g' < g + 1; have : g' < g := this; omega)).trans (hc i hi)
end Go.Proofs.Ytegkclehijdbiaa.CA

set_option linter.unusedSimpArgs false
set_option linter.unusedVariables false
namespace Go.Proofs.Ytegkclehijdbiaa.CB
open Go.RowKit Go.Proofs.YtegkclehijdbiaaW.PrintWords Go.Proofs.YtegkclehijdbiaaW.PrintLast Go.Proofs.Ytegkclehijdbiaa.V1 Go.Proofs.Ytegkclehijdbiaa.V3 Go.Proofs.Ytegkclehijdbiaa.N1 Go.Proofs.Ytegkclehijdbiaa.N2 Go.Proofs.Ytegkclehijdbiaa.N3 Go.Proofs.Ytegkclehijdbiaa.CA

set_option maxHeartbeats 1000000 in
theorem byte101 (g : Nat) (st : Option (List UInt8)) (w : World) (h : Rs w g st) : Calls Try.prog 101 #[.pointer (some ⟨g, 0, none⟩)] w (StS w g (.int .i64 (res takeB 0 st).1) (res takeB 0 st).2) := by
  have H := Lib.hid h
  clear h
  go_enter Try.func101, Try.ntmps101
  go_wp2_with fail
  (with_reducible refine (cut90 g 1 st _ H.out (by omega) (by omega)).mono ?_)
  rintro e W (⟨hc, rfl, hs, hb⟩ | ⟨l, A, m, c, rfl, hl, ⟨rfl, hs, hb⟩, hr, hm, h1, h2⟩)
  · have hres : res takeB 0 st = (0, none) := by
      cases st with
      | none => rfl
      | some l =>
        cases l with
        | nil => rfl
        | cons c t =>
          exfalso
          unfold cutS at hc
          simp at hc
          omega
    have hres := Lib.hid hres
    have hn : ∀ W : World, (binOp .eql 60 (.slice none 0 0) (.slice none 0 0)).run Try.prog W = .ok (.bool true) W := fun W => by kernel_rfl
    go_wp2
    go_ret
    exact ⟨by rw [hres.out]; rfl, by rw [hres.out]; exact hs, hb⟩
  · cases l with
    | nil => simp at hl
    | cons b t =>
      have e1 : (1 : Int).toNat = 1 := rfl
      rw [e1] at hr hm hs
      subst hm
      obtain ⟨g', o, rfl, hu, ha⟩ := hr.at_ (k := 0) (by omega)
      rw [Nat.zero_mul, Nat.add_zero] at hu ha
      have hu : W.cell? ⟨g', o, none⟩ = some (.int .u8 (b.toNat : Int)) := hu
      have hres : res takeB 0 (some (b :: t)) = ((b.toNat : Int), some t) := rfl
      have hres := Lib.hid hres
      have hE := Lib.run_eql_slice_nil (P := Try.prog) W 60 5 (some ⟨g', o, none⟩) 1 c 0 0 (by kernel_rfl)
      have hs := Lib.hid hs
      have hb := Lib.hid hb
      have x0 : b.toNat < 256 := b.toNat_lt
      have hw : IntKind.i64.wrap (b.toNat : Int) = (b.toNat : Int) := by simp only [IntKind.wrap_i64, wrap64]; omega
      clear hr
      go_wp2
      go_ret
      exact ⟨by rw [hres.out]; first | rfl | rw [hw], by rw [hres.out]; exact hs.out, hb.out⟩
theorem takeM_bad {c : UInt8} {t : List UInt8} (h : 8 < c.toNat) : takeM (c :: t) = none := by simp only [takeM, takeN]; rw [if_pos h]; rfl
theorem takeM_short {c : UInt8} {t : List UInt8} (h : ¬ 8 < c.toNat) (h2 : t.length < c.toNat) : takeM (c :: t) = none := by simp only [takeM, takeN]; rw [if_neg h, if_pos h2]; rfl
theorem takeM_loose {c : UInt8} {t : List UInt8} (h : ¬ 8 < c.toNat) (h2 : ¬ t.length < c.toNat) (h3 : firm (t.take c.toNat) = false) : takeM (c :: t) = none := by simp only [takeM, takeN]; rw [if_neg h, if_neg h2, if_neg (by rw [h3]; decide)]; rfl
theorem takeM_ok {c : UInt8} {t : List UInt8} (h : ¬ 8 < c.toNat) (h2 : ¬ t.length < c.toNat) (h3 : firm (t.take c.toNat) = true) : takeM (c :: t) = some ((val (t.take c.toNat) : Int), t.drop c.toNat) := by simp only [takeM, takeN]; rw [if_neg h, if_neg h2, if_pos h3]; rfl
theorem cutS_bad (n : Int) (st : Option (List UInt8)) (h : st = none) : cutS n st = none := by subst h; rfl
/-- What number's loop reckons. -/
theorem val_take (l : List UInt8) (k : Nat) (h : k < l.length) : val (l.take (k + 1)) = val (l.take k) * 256 + (el l k).toNat := by
  rw [List.take_succ_eq_append_getElem h, val_snoc]
  congr 2
  simp [el, List.getD, h]
theorem val_take_lt (l : List UInt8) (k : Nat) (h : k ≤ 7) : val (l.take k) < 72057594037927936 := by
  have h1 := val_lt (l.take k)
  have h2 : (l.take k).length ≤ 7 := by rw [List.length_take]; omega
  have h3 : 256 ^ (l.take k).length ≤ 256 ^ 7 := Nat.pow_le_pow_right (by omega) h2
  omega
set_option maxRecDepth 8000 in
set_option maxHeartbeats 2000000 in
theorem number89 (g : Nat) (st : Option (List UInt8)) (w : World) (h : Rs w g st) : Calls Try.prog 89 #[.pointer (some ⟨g, 0, none⟩)] w (StS w g (.int .u64 (res takeM 0 st).1) (res takeM 0 st).2) := by
  have H := Lib.hid h
  clear h
  have hn : ∀ W : World, (binOp .eql 60 (.slice none 0 0) (.slice none 0 0)).run Try.prog W = .ok (.bool true) W := fun W => by kernel_rfl
  have hcase : (Hid (res takeB 0 st = (0, none)) ∧ Hid (res takeM 0 st = (0, none))) ∨ ∃ c t, st = some (c :: t) := by
    cases st with
    | none => exact .inl ⟨rfl, rfl⟩
    | some l =>
      cases l with
      | nil => exact .inl ⟨rfl, rfl⟩
      | cons c t => exact .inr ⟨c, t, rfl⟩
  rcases hcase with ⟨hB, hM⟩ | ⟨c, t, rfl⟩
  · go_enter Try.func89, Try.ntmps89
    go_wp2_with fail
    (with_reducible refine (byte101 g st _ H.out).mono ?_)
    rintro e W1 ⟨rfl, hs1, hb1⟩
    rw [hB.out] at hs1 ⊢
    dsimp only at hs1 ⊢
    have hs1 := Lib.hid hs1
    go_wp2_with fail
    (with_reducible refine (cut90 g 0 none _ hs1.out (by omega) (by omega)).mono ?_)
    rintro e W2 (⟨hc, rfl, hs2, hb2⟩ | ⟨l, A, m, c, hl, _⟩)
    · go_wp2
      go_loopw [30, 5] (fun i u wr => i = .int .i64 0 ∧ u = .int .u64 0 ∧ wr = W2) (fun _ _ _ => 0)
      case atStart => exact ⟨rfl, rfl, rfl⟩
      case round =>
        obtain ⟨rfl, rfl, rfl⟩ := hrel
        go_wp2
        go_ret
        exact ⟨by rw [hM.out]; rfl, by rw [hM.out]; exact hs2, hb1.trans hb2⟩
    · cases hl
  · have x0 : c.toNat < 256 := c.toNat_lt
    have hB : res takeB 0 (some (c :: t)) = ((c.toNat : Int), some t) := rfl
    have hB := Lib.hid hB
    by_cases h8 : 8 < c.toNat
    · have hM := Lib.hid (res_no (d := 0) (takeM_bad (t := t) h8))
      have h8' : (8 : Int) < (c.toNat : Int) := by omega
      go_enter Try.func89, Try.ntmps89
      go_wp2_with fail
      (with_reducible refine (byte101 g _ _ H.out).mono ?_)
      rintro e W1 ⟨rfl, hs1, hb1⟩
      rw [hB.out] at hs1 ⊢
      dsimp only at hs1 ⊢
      have hs1 := Lib.hid hs1
      go_wp2_with fail
      (with_reducible refine (fail87 g _ _ hs1.out).mono ?_)
      rintro e W3 ⟨rfl, hs3, hb3⟩
      have hs3 := Lib.hid hs3
      go_wp2_with fail
      (with_reducible refine (cut90 g c.toNat none _ hs3.out (by omega) (by omega)).mono ?_)
      rintro e W2 (⟨hc, rfl, hs2, hb2⟩ | ⟨l, A, m, c, hl, _⟩)
      · go_wp2
        go_loopw [30, 5] (fun i u wr => i = .int .i64 0 ∧ u = .int .u64 0 ∧ wr = W2) (fun _ _ _ => 0)
        case atStart => exact ⟨rfl, rfl, rfl⟩
        case round =>
          obtain ⟨rfl, rfl, rfl⟩ := hrel
          go_wp2
          go_ret
          exact ⟨by rw [hM.out]; rfl, by rw [hM.out]; exact hs2, (hb1.trans hb3).trans hb2⟩
      · cases hl
    · have h8' : ¬ (8 : Int) < (c.toNat : Int) := by omega
      go_enter Try.func89, Try.ntmps89
      go_wp2_with fail
      (with_reducible refine (byte101 g _ _ H.out).mono ?_)
      rintro e W1 ⟨rfl, hs1, hb1⟩
      rw [hB.out] at hs1 ⊢
      dsimp only at hs1 ⊢
      have hs1 := Lib.hid hs1
      go_wp2_with fail
      (with_reducible refine (cut90 g c.toNat _ _ hs1.out (by omega) (by omega)).mono ?_)
      rintro e W2 (⟨hc, rfl, hs2, hb2⟩ | ⟨l, A, m, c', hl, hlt, ⟨rfl, hs2, hb2⟩, hr, hm, hm1, hm2⟩)
      · have hsh : t.length < c.toNat := by
          unfold cutS at hc
          dsimp only at hc
          split at hc
          · omega
          · cases hc
        have hM := Lib.hid (res_no (d := 0) (takeM_short h8 hsh))
        clear hc
        go_wp2
        go_loopw [30, 5] (fun i u wr => i = .int .i64 0 ∧ u = .int .u64 0 ∧ wr = W2) (fun _ _ _ => 0)
        case atStart => exact ⟨rfl, rfl, rfl⟩
        case round =>
          obtain ⟨rfl, rfl, rfl⟩ := hrel
          go_wp2
          go_ret
          exact ⟨by rw [hM.out]; rfl, by rw [hM.out]; exact hs2, hb1.trans hb2⟩
      · injection hl with hl
        subst hl
        rw [Int.toNat_natCast] at hm hr hs2
        have hsh : ¬ t.length < c.toNat := by omega
        have hlen : (t.take c.toNat).length = c.toNat := by rw [List.length_take]; omega
        subst hm
        have hs2 := Lib.hid hs2
        have hB2 := Lib.hid (show Keep1 g w W2 from hb1.trans hb2)
        have hc8 : c.toNat ≤ 8 := by omega
        generalize hk : c.toNat = k at *
        cases hf : firm (t.take k) with
        | false =>
          have hM := Lib.hid (res_no (d := 0) (takeM_loose (c := c) (t := t) (by omega) (by omega) (by rw [hk]; exact hf)))
          have hk0 : 0 < k := by
            rcases Nat.eq_zero_or_pos k with h0 | h0
            · subst h0; rw [List.take_zero] at hf; cases hf
            · exact h0
          obtain ⟨g', o, rfl, hu, ha⟩ := hr.at_ hk0
          rw [Nat.zero_mul, Nat.add_zero] at hu ha
          have hu0 : el (t.take k) 0 = 0 := by
            cases t with
            | nil => simp at hlen; omega
            | cons d t =>
              obtain ⟨k', rfl⟩ : ∃ x, k = x + 1 := ⟨k - 1, by omega⟩
              simp only [List.take_succ_cons, firm] at hf
              simpa [el] using hf
          have hu : W2.cell? ⟨g', o, none⟩ = some (.int .u8 0) := by
            have := hu; unfold atU at this; rw [hu0] at this; exact this
          have q1 : (0 : Int) < (k : Int) := by omega
          clear hr hf
          go_wp2_with fail
          (with_reducible refine (fail87 g _ _ hs2.out).mono ?_)
          rintro e W3 ⟨rfl, hs3, hb3⟩
          clear hu
          go_wp2
          go_ret
          exact ⟨by rw [hM.out]; rfl, by rw [hM.out]; exact hs3, hB2.out.trans hb3⟩
        | true =>
          have hM := Lib.hid (res_yes (d := 0) (takeM_ok (c := c) (t := t) (by omega) (by omega) (by rw [hk]; exact hf)))
          rw [hk] at hM
          generalize hbs : t.take k = bs at *
          have hlen := Lib.hid hlen
          have hloop : ∀ i : Nat, i < k → ∃ g' o, A = some ⟨g', o, none⟩ ∧ W2.cell? ⟨g', o + i, none⟩ = some (.int .u8 ((el bs i).toNat : Int)) ∧ (⟨g', o, none⟩ : Addr).add i = ⟨g', o + i, none⟩ := by
            intro i hi
            obtain ⟨g', o, e, hu, ha⟩ := hr.at_ hi
            rw [Nat.mul_one] at hu ha
            exact ⟨g', o, e, hu, ha⟩
          have hloop := Lib.hid hloop
          clear hr hbs
          by_cases hk0 : k = 0
          · subst hk0
            go_wp2
            go_loopw [30, 5] (fun i u wr => i = .int .i64 0 ∧ u = .int .u64 0 ∧ wr = W2) (fun _ _ _ => 0)
            case atStart => exact ⟨rfl, rfl, rfl⟩
            case round =>
              obtain ⟨rfl, rfl, rfl⟩ := hrel
              have hv : val bs = 0 := by
                have : bs = [] := List.eq_nil_of_length_eq_zero hlen.out
                subst this; rfl
              have hv := Lib.hid hv
              go_wp2
              go_ret
              exact ⟨by rw [hM.out, hv.out]; rfl, by rw [hM.out]; exact hs2.out, hB2.out⟩
          · obtain ⟨g', o, rfl, hu, ha⟩ := hloop.out 0 (by omega)
            rw [Nat.add_zero] at hu ha
            have hne : ¬ ((el bs 0).toNat : Int) = 0 := by
              cases bs with
              | nil => exact absurd hlen.out (by simp; omega)
              | cons d t' =>
                simp only [firm] at hf
                have hd : ¬ d = 0 := by simpa using hf
                intro e
                apply hd
                apply UInt8.toNat_inj.1
                have : (el (d :: t') 0) = d := rfl
                rw [this] at e
                simpa using e
            have hne2 : (((el bs 0).toNat : Int) == 0) = false := by simpa using hne
            have q1 : (0 : Int) < (k : Int) := by omega
            clear hk0 hf
            go_wp2
            clear hu ha hne hne2
            go_loopw [30, 5] (fun i u wr => ∃ j : Nat, i = .int .i64 j ∧ j ≤ k ∧ u = .int .u64 (val (bs.take j) : Int) ∧ wr = W2) (fun i _ _ => k - (intOf i).toNat)
            case atStart => exact ⟨0, rfl, by omega, rfl, rfl⟩
            case round =>
              obtain ⟨j, rfl, hj, rfl, rfl⟩ := hrel
              by_cases hlt2 : j < k
              · obtain ⟨g2, o2, he, hu, ha⟩ := hloop.out j hlt2
                cases he
                have q2 : (0 : Int) ≤ (j : Int) := by omega
                have q3 : (j : Int) < (k : Int) := by omega
                have hvt := Lib.hid (val_take bs j (by rw [hlen.out]; exact hlt2))
                have hvl := val_take_lt bs j (by omega)
                have hor : bits .or .u64 ((val (bs.take j) : Int) * 256) (IntKind.u64.wrap ((el bs j).toNat : Int)) = (val (bs.take (j + 1)) : Int) := by
                  have hc256 : (el bs j).toNat < 256 := (el bs j).toNat_lt
                  rw [hvt.out, show IntKind.u64.wrap ((el bs j).toNat : Int) = ((el bs j).toNat : Int) by rw [IntKind.wrap_u64]; omega]
                  have := or8 (val (bs.take j)) (el bs j) hvl
                  rw [Int.natCast_mul] at this
                  exact this
                have hor := Lib.hid hor
                clear hvt
                go_wp2
                go_roundw
                case rel => exact ⟨j + 1, by go_num, by omega, by first | rfl | rw [hor.out], by trivial⟩
                case measure => simp [intOf] <;> omega
              · obtain rfl : j = k := by omega
                have hall : bs.take j = bs := List.take_of_length_le (by rw [hlen.out]; exact Nat.le_refl _)
                have hall := Lib.hid hall
                go_wp2
                go_ret
                exact ⟨by rw [hM.out, hall.out]; rfl, by rw [hM.out]; exact hs2.out, hB2.out⟩
/-- Taken numbers fit. -/
theorem takeM_bd {st : Option (List UInt8)} : 0 ≤ (res takeM 0 st).1 ∧ (res takeM 0 st).1 < 18446744073709551616 := by
  cases st with
  | none => simp [res]
  | some l =>
    cases h : takeM l with
    | none => rw [res_no h]; simp
    | some p =>
      rw [res_yes (v := p.1) (r := p.2) (by rw [h])]
      unfold takeM at h
      cases h2 : takeN l with
      | none => rw [h2] at h; cases h
      | some q =>
        have := takeN_lt (l := l) (r := q.2) (n := q.1) (by rw [h2])
        rw [h2] at h
        simp only [Option.map_some, Option.some.injEq] at h
        rw [← h]
        omega
theorem res_takeI (st : Option (List UInt8)) : res takeI 0 st = (zig (res takeM 0 st).1.toNat, (res takeM 0 st).2) := by
  cases st with
  | none => rfl
  | some l =>
    unfold res takeI takeM
    cases h2 : takeN l with
    | none => simp only [Option.bind_some, h2]; rfl
    | some q => simp only [Option.bind_some, h2, Option.map_some, Int.toNat_natCast]
theorem zig_walk (k : Nat) (h : k < 18446744073709551616) : bits .xor .i64 ((k : Int) / 2) (wrap64 (-wrap64 (bits .and .u64 (k : Int) 1))) = zig k := by
  rw [and1 k h, ← zig_bits k h]
  have e1 : (k : Int) / 2 = ((k / 2 : Nat) : Int) := by omega
  have e2 : wrap64 (-wrap64 ((k % 2 : Nat) : Int)) = -((k % 2 : Nat) : Int) := by unfold wrap64; omega
  rw [e1, e2]
set_option maxHeartbeats 1000000 in
theorem signed47 (g : Nat) (st : Option (List UInt8)) (w : World) (h : Rs w g st) : Calls Try.prog 47 #[.pointer (some ⟨g, 0, none⟩)] w (StS w g (.int .i64 (res takeI 0 st).1) (res takeI 0 st).2) := by
  have hI := Lib.hid (res_takeI st)
  obtain ⟨b0, b1⟩ := takeM_bd (st := st)
  have hR := Lib.hid (number89 g st w h)
  generalize res takeM 0 st = p at *
  obtain ⟨n, s⟩ := p
  dsimp only at b0 b1 hI hR
  obtain ⟨k, rfl⟩ := Int.eq_ofNat_of_zero_le b0
  rw [Int.toNat_natCast] at hI
  go_enter Try.func47, Try.ntmps47
  go_wp2_with fail
  (with_reducible refine hR.out.mono ?_)
  rintro e W1 ⟨rfl, hs, hb⟩
  go_wp2
  go_ret
  exact ⟨by rw [hI.out, ← zig_walk k (by omega)]; rfl, by rw [hI.out]; exact hs, hb⟩
theorem res_takeS (most : Int) (st : Option (List UInt8)) : res (takeS most) 0 st = if (res takeM 0 st).2.isSome = true then (if most < 0 ∨ most < (res takeM 0 st).1 then (0, none) else ((res takeM 0 st).1, (res takeM 0 st).2)) else (0, none) := by
  cases st with
  | none => rfl
  | some l =>
    unfold res takeS takeM
    cases h2 : takeN l with
    | none => simp only [Option.bind_some, h2]; rfl
    | some q =>
      simp only [Option.bind_some, h2, Option.map_some, Option.isSome_some, if_true]
      by_cases hc : most < 0 ∨ most < (q.1 : Int)
      · simp only [if_pos hc]
      · simp only [if_neg hc]
set_option maxHeartbeats 1000000 in
theorem size71 (g : Nat) (most : Int) (st : Option (List UInt8)) (w : World) (h : Rs w g st) (m0 : -9223372036854775808 ≤ most) (m1 : most ≤ 9223372036854775807) : Calls Try.prog 71 #[.pointer (some ⟨g, 0, none⟩), .int .i64 most] w (StS w g (.int .i64 (res (takeS most) 0 st).1) (res (takeS most) 0 st).2) := by
  have hI := Lib.hid (res_takeS most st)
  obtain ⟨b0, b1⟩ := takeM_bd (st := st)
  have hR := Lib.hid (number89 g st w h)
  generalize res takeM 0 st = p at *
  obtain ⟨n, s⟩ := p
  dsimp only at b0 b1 hI hR
  cases s with
  | none =>
    have hI : Hid (res (takeS most) 0 st = (0, none)) := by show _ = _; rw [hI.out]; rfl
    go_enter Try.func71, Try.ntmps71
    go_wp2_with fail
    (with_reducible refine hR.out.mono ?_)
    rintro e W1 ⟨rfl, hs, hb⟩
    have hs := Lib.hid hs
    go_wp2_with fail
    (with_reducible refine (good52 g none _ hs.out).mono ?_)
    rintro e W ⟨rfl, rfl⟩
    dsimp only [Option.isSome]
    go_wp2_with fail
    (with_reducible refine (good52 g none _ hs.out).mono ?_)
    rintro e W ⟨rfl, rfl⟩
    dsimp only [Option.isSome]
    go_wp2
    go_ret
    exact ⟨by rw [hI.out]; rfl, by rw [hI.out]; exact hs.out, hb⟩
  | some r =>
    by_cases hc : most < 0 ∨ most < n
    · have hI : Hid (res (takeS most) 0 st = (0, none)) := by show _ = _; rw [hI.out]; simp only [Option.isSome_some, if_true, if_pos hc]
      have tail : ∀ (W1 : World), Rs W1 g (some r) → Calls Try.prog 87 #[.pointer (some ⟨g, 0, none⟩)] W1 (StS W1 g (.tuple #[]) none) := fun W1 h => fail87 g _ W1 h
      by_cases h0 : most < 0
      · clear hc
        go_enter Try.func71, Try.ntmps71
        go_wp2_with fail
        (with_reducible refine hR.out.mono ?_)
        rintro e W1 ⟨rfl, hs, hb⟩
        have hs := Lib.hid hs
        go_wp2_with fail
        (with_reducible refine (good52 g (some r) _ hs.out).mono ?_)
        rintro e W ⟨rfl, rfl⟩
        dsimp only [Option.isSome]
        go_wp2_with fail
        (with_reducible refine (tail _ hs.out).mono ?_)
        rintro e W2 ⟨rfl, hs2, hb2⟩
        have hs2 := Lib.hid hs2
        go_wp2_with fail
        (with_reducible refine (good52 g none _ hs2.out).mono ?_)
        rintro e W ⟨rfl, rfl⟩
        dsimp only [Option.isSome]
        go_wp2
        go_ret
        exact ⟨by rw [hI.out]; rfl, by rw [hI.out]; exact hs2.out, hb.trans hb2⟩
      · have hmn : most < n := by omega
        have hw : IntKind.u64.wrap most = most := by rw [IntKind.wrap_u64]; omega
        have hw := Lib.hid hw
        clear hc
        go_enter Try.func71, Try.ntmps71
        go_wp2_with fail
        (with_reducible refine hR.out.mono ?_)
        rintro e W1 ⟨rfl, hs, hb⟩
        have hs := Lib.hid hs
        go_wp2_with fail
        (with_reducible refine (good52 g (some r) _ hs.out).mono ?_)
        rintro e W ⟨rfl, rfl⟩
        dsimp only [Option.isSome]
        have hw := hw.out
        go_wp2_with fail
        (with_reducible refine (tail _ hs.out).mono ?_)
        rintro e W2 ⟨rfl, hs2, hb2⟩
        have hs2 := Lib.hid hs2
        go_wp2_with fail
        (with_reducible refine (good52 g none _ hs2.out).mono ?_)
        rintro e W ⟨rfl, rfl⟩
        dsimp only [Option.isSome]
        go_wp2
        go_ret
        exact ⟨by rw [hI.out]; rfl, by rw [hI.out]; exact hs2.out, hb.trans hb2⟩
    · have hI : Hid (res (takeS most) 0 st = (n, some r)) := by show _ = _; rw [hI.out]; simp only [Option.isSome_some, if_true, if_neg hc]
      have h0 : ¬ most < 0 := by omega
      have hmn : ¬ most < n := by omega
      have hw : IntKind.u64.wrap most = most := by rw [IntKind.wrap_u64]; omega
      have hw2 : wrap64 n = n := by unfold wrap64; omega
      have hw := Lib.hid hw
      have hw2 := Lib.hid hw2
      clear hc
      go_enter Try.func71, Try.ntmps71
      go_wp2_with fail
      (with_reducible refine hR.out.mono ?_)
      rintro e W1 ⟨rfl, hs, hb⟩
      have hs := Lib.hid hs
      go_wp2_with fail
      (with_reducible refine (good52 g (some r) _ hs.out).mono ?_)
      rintro e W ⟨rfl, rfl⟩
      dsimp only [Option.isSome]
      have hw := hw.out
      go_wp2_with fail
      (with_reducible refine (good52 g (some r) _ hs.out).mono ?_)
      rintro e W ⟨rfl, rfl⟩
      dsimp only [Option.isSome]
      clear hw
      go_wp2
      go_ret
      exact ⟨by rw [hI.out]; first | rfl | rw [hw2.out], by rw [hI.out]; exact hs.out, hb⟩
end Go.Proofs.Ytegkclehijdbiaa.CB

set_option linter.unusedSimpArgs false
set_option linter.unusedVariables false
namespace Go.Proofs.Ytegkclehijdbiaa.CC
open Go.RowKit Go.Proofs.YtegkclehijdbiaaW.PrintWords Go.Proofs.YtegkclehijdbiaaW.PrintLast Go.Proofs.Ytegkclehijdbiaa.V1 Go.Proofs.Ytegkclehijdbiaa.V2 Go.Proofs.Ytegkclehijdbiaa.V3 Go.Proofs.Ytegkclehijdbiaa.N1 Go.Proofs.Ytegkclehijdbiaa.N2 Go.Proofs.Ytegkclehijdbiaa.N3 Go.Proofs.Ytegkclehijdbiaa.CA Go.Proofs.Ytegkclehijdbiaa.CB

def nums (l : List UInt8) : List Int := l.map fun c => (c.toNat : Int)
theorem str_nums (l : List UInt8) : strOfNums (nums l) = ⟨l.toArray⟩ := by
  unfold strOfNums nums
  simp [Function.comp_def]
theorem rdU_reads {W : World} {A : Option Addr} {n : Nat} {l : List UInt8} (h : RdU W A n l) : ReadsInt W .u8 A n (nums l) := by
  refine ⟨by simp [nums]; exact h.1, h.2.1, fun hn => ?_⟩
  obtain ⟨g, o, e, hc⟩ := h.2.2 hn
  refine ⟨_, e, fun i hi => ?_⟩
  have := hc i hi
  unfold atU at this
  rw [Nat.mul_one] at this
  rw [V1.add_at, this]
  have hl := h.1
  simp [nums, el, List.getD, List.getElem?_map, List.getElem?_eq_getElem (show i < l.length by omega)]
theorem to_string {W : World} {A : Option Addr} {n c : Nat} {l : List UInt8} (h : RdU W A n l) : (convert 60 9 (.slice A n c)).run Try.prog W = .ok (.string ⟨l.toArray⟩) W := by
  rw [← str_nums]
  exact string_of_reads Try.underlying60 Try.underlying5 Try.underlying9 (rdU_reads h)
theorem takeS_bd (most : Int) (st : Option (List UInt8)) (hm : most ≤ 9223372036854775807) : 0 ≤ (res (takeS most) 0 st).1 ∧ (res (takeS most) 0 st).1 ≤ 9223372036854775807 := by
  rw [res_takeS]
  obtain ⟨b0, b1⟩ := takeM_bd (st := st)
  split
  · split
    · simp
    · simp; omega
  · simp
theorem res_takeT (most : Int) (st : Option (List UInt8)) : res (takeT most) ⟨#[]⟩ st = match (res (takeS most) 0 st).2 with
    | none => (⟨#[]⟩, none)
    | some r => if (r.length : Int) < (res (takeS most) 0 st).1 then (⟨#[]⟩, none) else (⟨(r.take (res (takeS most) 0 st).1.toNat).toArray⟩, some (r.drop (res (takeS most) 0 st).1.toNat)) := by
  cases st with
  | none => rfl
  | some l =>
    unfold res takeT
    cases h : takeS most l with
    | none => simp only [Option.bind_some, h]
    | some p =>
      have hp : 0 ≤ p.1 := by
        have := (N2.takeS_more [] (most := most) (l := l) (n := p.1) (r := p.2) (by rw [h]))
        unfold takeS at h
        split at h
        · cases h
        · split at h
          · cases h
          · simp only [Option.some.injEq] at h; rw [← h]; omega
      simp only [Option.bind_some, h]
      by_cases hc : (p.2.length : Int) < p.1
      · rw [if_pos (show p.2.length < p.1.toNat by omega), if_pos hc]
      · rw [if_neg (show ¬ p.2.length < p.1.toNat by omega), if_neg hc]
set_option maxHeartbeats 1000000 in
theorem text48 (g : Nat) (most : Int) (st : Option (List UInt8)) (w : World) (h : Rs w g st) (m0 : -9223372036854775808 ≤ most) (m1 : most ≤ 9223372036854775807) : Calls Try.prog 48 #[.pointer (some ⟨g, 0, none⟩), .int .i64 most] w (StS w g (.string (res (takeT most) ⟨#[]⟩ st).1) (res (takeT most) ⟨#[]⟩ st).2) := by
  have hI := Lib.hid (res_takeT most st)
  obtain ⟨b0, b1⟩ := takeS_bd most st m1
  have hR := Lib.hid (size71 g most st w h m0 m1)
  generalize res (takeS most) 0 st = p at *
  obtain ⟨n, s⟩ := p
  dsimp only at b0 b1 hI hR
  go_enter Try.func48, Try.ntmps48
  go_wp2_with fail
  (with_reducible refine hR.out.mono ?_)
  rintro e W1 ⟨rfl, hs, hb⟩
  have hs := Lib.hid hs
  go_wp2_with fail
  (with_reducible refine (cut90 g n s _ hs.out b0 b1).mono ?_)
  rintro e W2 (⟨hc, rfl, hs2, hb2⟩ | ⟨l, A, m, c, rfl, hlt, ⟨rfl, hs2, hb2⟩, hr, hm, hm1, hm2⟩)
  · have hI : Hid (res (takeT most) ⟨#[]⟩ st = (⟨#[]⟩, none)) := by
      show _ = _
      rw [hI.out]
      cases s with
      | none => rfl
      | some r =>
        unfold cutS at hc
        dsimp only at hc ⊢
        split at hc
        · rename_i h; rw [if_pos h]
        · cases hc
    clear hc
    have hT := to_string (W := W2) (A := none) (n := 0) (c := 0) (l := []) (rdU_nil _ _)
    go_wp2
    go_ret
    exact ⟨by rw [hI.out]; rfl, by rw [hI.out]; exact hs2, hb.trans hb2⟩
  · have hI : Hid (res (takeT most) ⟨#[]⟩ st = (⟨(l.take n.toNat).toArray⟩, some (l.drop n.toNat))) := by
      show _ = _
      rw [hI.out]
      dsimp only
      rw [if_neg hlt]
    have hT := to_string (c := c) hr
    have hs2 := Lib.hid hs2
    clear hlt hm hr
    generalize l.take n.toNat = tk at *
    go_wp2
    go_ret
    exact ⟨by rw [hI.out]; rfl, by rw [hI.out]; exact hs2.out, hb.trans hb2⟩
end Go.Proofs.Ytegkclehijdbiaa.CC

set_option linter.unusedSimpArgs false
set_option linter.unusedVariables false
namespace Go.Proofs.Ytegkclehijdbiaa.CD
open Go.RowKit Go.Proofs.YtegkclehijdbiaaW.PrintWords Go.Proofs.Ytegkclehijdbiaa.V1 Go.Proofs.Ytegkclehijdbiaa.V2 Go.Proofs.Ytegkclehijdbiaa.V3 Go.Proofs.Ytegkclehijdbiaa.N1 Go.Proofs.Ytegkclehijdbiaa.N2 Go.Proofs.Ytegkclehijdbiaa.N3 Go.Proofs.Ytegkclehijdbiaa.CA Go.Proofs.Ytegkclehijdbiaa.CB Go.Proofs.Ytegkclehijdbiaa.CC
open Go.Proofs.YtegkclehijdbiaaW.PrintLast hiding takeB

def zV : Vl := ⟨0, 0, ⟨#[]⟩⟩
/-- What Value answers, out of what it has read. -/
def fin (v : Vl) (s2 : Option (List UInt8)) : Vl × Option (List UInt8) :=
  match (if okV v = true then s2 else none) with
  | none => (zV, none)
  | some r => (v, some r)
theorem fin_wrong {v : Vl} {s2 : Option (List UInt8)} (h : okV v = false) : fin v s2 = (zV, none) := by unfold fin; rw [if_neg (by rw [h]; decide)]
theorem fin_bad (v : Vl) : fin v none = (zV, none) := by unfold fin; split <;> rename_i h <;> first | rfl | (split at h <;> cases h)
theorem fin_ok {v : Vl} {r : List UInt8} (h : okV v = true) : fin v (some r) = (v, some r) := by unfold fin; rw [if_pos h]
theorem ok1 (n : Int) : okV ⟨1, n, ⟨#[]⟩⟩ = true := by have := empty_yes (s := ⟨#[]⟩) rfl; simp [okV, this]
theorem ok2 (s : ByteArray) (h : s.size ≤ 200) : okV ⟨2, 0, s⟩ = true := by simp [okV]; omega
theorem ok3 (n : Int) : okV ⟨3, n, ⟨#[]⟩⟩ = (n == 0 || n == 1) := by
  have h : (⟨#[]⟩ : ByteArray).toList.isEmpty = true := empty_yes rfl
  simp [okV, h]
theorem okx (k n : Int) (s : ByteArray) (h1 : k ≠ 1) (h2 : k ≠ 2) (h3 : k ≠ 3) : okV ⟨k, n, s⟩ = false := by simp [okV, h1, h2, h3]
theorem V_bad {st : Option (List UInt8)} (h : res takeB 0 st = (0, none)) : res takeV zV st = fin ⟨0, 0, ⟨#[]⟩⟩ none := by
  rw [fin_bad]
  cases st with
  | none => rfl
  | some l =>
    cases l with
    | nil => rfl
    | cons c t => simp [res, takeB] at h
theorem V_1 (t : List UInt8) : res takeV zV (some (1 :: t)) = fin ⟨1, (res takeI 0 (some t)).1, ⟨#[]⟩⟩ (res takeI 0 (some t)).2 := by
  cases h : takeI t with
  | none =>
    rw [res_no (f := takeI) h, fin_bad]
    exact res_no (by rw [takeV, if_pos rfl, h])
  | some p =>
    rw [res_yes (f := takeI) (v := p.1) (r := p.2) h, fin_ok (ok1 _)]
    exact res_yes (by rw [takeV, if_pos rfl, h])
theorem V_2 (t : List UInt8) : res takeV zV (some (2 :: t)) = fin ⟨2, 0, (res (takeT 200) ⟨#[]⟩ (some t)).1⟩ (res (takeT 200) ⟨#[]⟩ (some t)).2 := by
  cases h : takeT 200 t with
  | none =>
    rw [res_no (f := takeT 200) h, fin_bad]
    exact res_no (by rw [takeV, if_neg (by decide), if_pos rfl, h])
  | some p =>
    have hp : p.1.size ≤ 200 := by
      unfold takeT takeS at h
      split at h
      · cases h
      · rename_i n r e
        split at h
        · cases h
        · simp only [Option.some.injEq] at h
          rw [← h]
          split at e
          · cases e
          · split at e
            · cases e
            · rename_i hh
              simp only [Option.some.injEq, Prod.mk.injEq] at e
              simp [ByteArray.size]
              omega
    rw [res_yes (f := takeT 200) (v := p.1) (r := p.2) h, fin_ok (ok2 _ hp)]
    exact res_yes (by rw [takeV, if_neg (by decide), if_pos rfl, h])
theorem V_3 (t : List UInt8) : res takeV zV (some (3 :: t)) = fin ⟨3, (res takeB 0 (some t)).1, ⟨#[]⟩⟩ (res takeB 0 (some t)).2 := by
  cases t with
  | nil =>
    rw [res_no (f := takeB) (l := []) rfl, fin_bad]; rfl
  | cons d t =>
    rw [res_yes (f := takeB) (v := (d.toNat : Int)) (r := t) rfl]
    by_cases h : (d.toNat : Int) ≤ 1
    · rw [fin_ok (by rw [ok3]; simp; omega)]
      exact res_yes (by rw [takeV, if_neg (by decide), if_neg (by decide), if_pos rfl, takeB]; simp only [if_pos h])
    · rw [fin_wrong (by rw [ok3]; simp; omega)]
      exact res_no (by rw [takeV, if_neg (by decide), if_neg (by decide), if_pos rfl, takeB]; simp only [if_neg h])
theorem V_x (c : UInt8) (t : List UInt8) (s2 : Option (List UInt8)) (h1 : c ≠ 1) (h2 : c ≠ 2) (h3 : c ≠ 3) : res takeV zV (some (c :: t)) = fin ⟨(c.toNat : Int), 0, ⟨#[]⟩⟩ s2 := by
  have k : ∀ m : UInt8, c ≠ m → (c.toNat : Int) ≠ (m.toNat : Int) := fun m h e => h (UInt8.toNat_inj.1 (by omega))
  rw [fin_wrong (okx _ _ _ (k 1 h1) (k 2 h2) (k 3 h3))]
  exact res_no (by rw [takeV, if_neg h1, if_neg h2, if_neg h3])
theorem takeI_bd (st : Option (List UInt8)) : -9223372036854775808 ≤ (res takeI 0 st).1 ∧ (res takeI 0 st).1 ≤ 9223372036854775807 := by
  rw [res_takeI]
  obtain ⟨b0, b1⟩ := takeM_bd (st := st)
  dsimp only
  unfold zig
  split <;> omega
theorem takeB_bd (st : Option (List UInt8)) : 0 ≤ (res takeB 0 st).1 ∧ (res takeB 0 st).1 ≤ 255 := by
  cases st with
  | none => simp [res]
  | some l =>
    cases l with
    | nil => simp [res, takeB]
    | cons c t =>
      have := c.toNat_lt
      rw [res_yes (f := takeB) (v := (c.toNat : Int)) (r := t) rfl]
      dsimp only; omega
theorem takeT_bd (most : Int) (st : Option (List UInt8)) (hm : most ≤ 9223372036854775807) : (res (takeT most) ⟨#[]⟩ st).1.size ≤ 9223372036854775807 := by
  rw [res_takeT]
  obtain ⟨b0, b1⟩ := takeS_bd most st hm
  split
  · exact Nat.zero_le _
  · split
    · exact Nat.zero_le _
    · simp [ByteArray.size]; omega
theorem Keep1.cell {g : Nat} {a b : World} (h : Keep1 g a b) {p : Addr} {v : Value} (hc : a.cell? p = some v) (hg : p.block ≠ g) : b.cell? p = some v := by
  have hl := World.block_lt_of_cell? a p hc
  have := h.block p.block hl hg
  unfold World.cell? at hc ⊢
  rw [this]; exact hc
theorem Rs.far {w : World} {g b j : Nat} {u : Value} {st : Option (List UInt8)} (h : Rs w g st) (hne : g ≠ b) (hb : ∀ A n, RdU w A n (st.getD []) → RdU (w.setCell ⟨b, j, none⟩ u) A n (st.getD [])) : Rs (w.setCell ⟨b, j, none⟩ u) g st := by
  obtain ⟨A, n, c, e, h1, h2⟩ := h
  exact ⟨A, n, c, blk_far e hne _, hb _ _ h1, h2⟩
/-- Bytes are not in a value's block. -/
theorem rdU_vset {w : World} {b n : Nat} {B : Option Addr} {l : List UInt8} {k m : Int} {s : ByteArray} (h : RdU w B n l) (hb : w.heap[b]? = some (.cells #[.int .i64 k, .int .i64 m, .string s] 56 (0, 0))) (j : Nat) (u : Value) : RdU (w.setCell ⟨b, j, none⟩ u) B n l := by
  refine ⟨h.1, h.2.1, fun hn => ?_⟩
  obtain ⟨g', o, e, hc⟩ := h.2.2 hn
  refine ⟨g', o, e, fun i hi => ?_⟩
  have c0 := hc i hi
  have hne : b ≠ g' := by
    rintro rfl
    unfold atU at c0
    rw [blk_cell hb] at c0
    have h1 := (Array.getElem?_eq_some_iff.1 c0).1
    simp at h1
    rcases (show o + i * 1 = 0 ∨ o + i * 1 = 1 ∨ o + i * 1 = 2 by omega) with h0 | h0 | h0
    · rw [h0] at c0; simp at c0
    · rw [h0] at c0; simp at c0
    · rw [h0] at c0; simp at c0
  exact (World.cell?_setCell_far _ _ _ _ hne).trans c0
theorem Keep1.far {g : Nat} {a b : World} (h : Keep1 g a b) {bk j : Nat} (hbk : a.heap.size ≤ bk) (u : Value) : Keep1 g a (b.setCell ⟨bk, j, none⟩ u) :=
  ⟨h.os, h.tape, h.output, by simpa [World.setCell] using h.size, fun i hi hg => (Below.heap_setCell b ⟨bk, j, none⟩ u i (by show i ≠ bk; omega)).trans (h.block i hi hg)⟩
/-- A value's parts in a block of their own. -/
abbrev vB (k n : Int) (s : ByteArray) : Obj := .cells #[.int .i64 k, .int .i64 n, .string s] 56 (0, 0)
def StV (w : World) (g : Nat) (p : Vl × Option (List UInt8)) (e : Ending) (w' : World) : Prop := StS w g p.1.agg p.2 e w'
theorem vfit {k n : Int} {s : ByteArray} (h0 : -9223372036854775808 ≤ k) (h1 : k ≤ 9223372036854775807) (h2 : -9223372036854775808 ≤ n) (h3 : n ≤ 9223372036854775807) (h4 : s.size ≤ 9223372036854775807) : (Vl.mk k n s).Fit := ⟨h0, h1, h2, h3, h4⟩
/-- What the switch of Value leaves. -/
def SwR (w : World) (g bk : Nat) (st : Option (List UInt8)) (k : Int) (wx : World) : Prop := ∃ n s s2, wx.heap[bk]? = some (vB k n s) ∧ wx.heap[w.heap.size]? = some (vB 0 0 ⟨#[]⟩) ∧ Rs wx g s2 ∧ Keep1 g w wx ∧ (Vl.mk k n s).Fit ∧ res takeV zV st = fin ⟨k, n, s⟩ s2
set_option maxRecDepth 8000 in
set_option maxHeartbeats 2000000 in
theorem value82 (g : Nat) (st : Option (List UInt8)) (w : World) (h : Rs w g st) : Calls Try.prog 82 #[.pointer (some ⟨g, 0, none⟩)] w (StV w g (res takeV zV st)) := by
  have hg0 := h.lt
  have a0 : (w.alloc (.cells #[.int .i64 0, .int .i64 0, .string ⟨#[]⟩] 56)).heap[w.heap.size]? = some (vB 0 0 ⟨#[]⟩) := heap_alloc_new w _
  have P0 : Below w.heap.size w (w.alloc (.cells #[.int .i64 0, .int .i64 0, .string ⟨#[]⟩] 56)) := by go_grown
  have h := h.below P0
  have a0 := Lib.hid a0
  have K0 := Keep1.below (g := g) P0
  go_enter Try.func82, Try.ntmps82
  go_wp2_with fail
  generalize w.alloc (.cells #[.int .i64 0, .int .i64 0, .string ⟨#[]⟩] 56) = X at *
  (with_reducible refine (byte101 g st _ h).mono ?_)
  rintro e W1 ⟨rfl, hs1, hb1⟩
  obtain ⟨bb0, bb1⟩ := takeB_bd st
  have hb0 : w.heap.size < X.heap.size := by have := blk_lt a0.out; exact this
  have a1 : Hid (W1.heap[w.heap.size]? = some (vB 0 0 ⟨#[]⟩)) := (hb1.block _ hb0 (by omega)).trans a0.out
  have K1 := K0.trans hb1
  have z1 : w.heap.size < W1.heap.size := blk_lt a1.out
  obtain ⟨k, hk⟩ : ∃ k, k = (res takeB 0 st).1 := ⟨_, rfl⟩
  obtain ⟨s1, hs1'⟩ : ∃ s, s = (res takeB 0 st).2 := ⟨_, rfl⟩
  rw [← hk] at bb0 bb1 ⊢
  rw [← hs1'] at hs1
  have hB : Hid (res takeB 0 st = (k, s1)) := by show _ = _; rw [hk, hs1']
  clear hk hs1'
  go_upto_region 2 with fail
  have PA : Below W1.heap.size W1 (W1.alloc (.cells #[.int .i64 k, .int .i64 0, .string ⟨#[]⟩] 56)) := by go_grown
  have b2 : Hid ((W1.alloc (.cells #[.int .i64 k, .int .i64 0, .string ⟨#[]⟩] 56)).heap[W1.heap.size]? = some (vB k 0 ⟨#[]⟩)) := heap_alloc_new W1 _
  have hs2 := Lib.hid (hs1.below PA)
  have a2 : Hid ((W1.alloc (.cells #[.int .i64 k, .int .i64 0, .string ⟨#[]⟩] 56)).heap[w.heap.size]? = some (vB 0 0 ⟨#[]⟩)) := (PA.block _ z1).trans a1.out
  have K2 := K1.trans (Keep1.below (g := g) PA)
  have hgb : g ≠ W1.heap.size := by have := hs1.lt; omega
  have hab : w.heap.size ≠ W1.heap.size := by omega
  generalize hbk : W1.heap.size = bk at *
  generalize W1.alloc (.cells #[.int .i64 k, .int .i64 0, .string ⟨#[]⟩] 56) = V at *
  have f0 : V.cell? ⟨bk, 0, none⟩ = some (.int .i64 k) := (blk_cell b2.out 0).trans rfl
  go_upto_block 0 with fail
  clear f0
  have hbV : bk < V.heap.size := blk_lt b2.out
  have haV : w.heap.size < V.heap.size := blk_lt a2.out
  go_cut [] (fun wx => SwR w g bk st k wx)
  case first =>
    have hcase : (k = 0 ∧ s1 = none ∧ res takeB 0 st = (0, none)) ∨ ∃ c t, st = some (c :: t) ∧ k = (c.toNat : Int) ∧ s1 = some t := by
      have := hB.out
      cases st with
      | none => simp [res] at this; exact .inl ⟨this.1.symm, this.2.symm, rfl⟩
      | some l =>
        cases l with
        | nil => simp [res, takeB] at this; exact .inl ⟨this.1.symm, this.2.symm, rfl⟩
        | cons c t => simp [res, takeB] at this; exact .inr ⟨c, t, rfl, this.1.symm, this.2.symm⟩
    rcases hcase with ⟨rfl, rfl, hbad⟩ | ⟨c, t, rfl, hkc, rfl⟩
    · have hbad := Lib.hid hbad
      go_wp2
      go_meet
      case rel => exact ⟨0, ⟨#[]⟩, none, b2.out, a2.out, hs2.out, K2, vfit (by omega) (by omega) (by omega) (by omega) (Nat.zero_le _), V_bad hbad.out⟩
    · by_cases h1 : c = 1
      · subst h1
        obtain rfl : k = 1 := hkc
        go_wp2_with fail
        (with_reducible refine (signed47 g (some t) _ hs2.out).mono ?_)
        rintro e W3 ⟨rfl, hs3, hb3⟩
        have b3 : Hid (W3.heap[bk]? = some (vB 1 0 ⟨#[]⟩)) := (hb3.block _ hbV (Ne.symm hgb)).trans b2.out
        have a3 : Hid (W3.heap[w.heap.size]? = some (vB 0 0 ⟨#[]⟩)) := (hb3.block _ haV (by omega)).trans a2.out
        have K3 := K2.trans hb3
        have f1 : W3.cell? ⟨bk, 1, none⟩ = some (.int .i64 0) := (blk_cell b3.out 1).trans rfl
        have q1 := blk_frozen b3.out
        obtain ⟨i0, i1⟩ := takeI_bd (some t)
        have hV := Lib.hid (V_1 t)
        generalize res takeI 0 (some t) = r at *
        go_wp2
        go_meet
        case rel => exact ⟨_, _, _, blk_put b3.out 1 _ rfl, (blk_far a3.out hab _), Rs.far hs3 hgb (fun _ _ hh => rdU_vset hh b3.out _ _), Keep1.far K3 (by omega) _, vfit (by omega) (by omega) i0 i1 (Nat.zero_le _), hV.out⟩
      · by_cases h2 : c = 2
        · subst h2
          obtain rfl : k = 2 := hkc
          go_wp2_with fail
          (with_reducible refine (text48 g 200 (some t) _ hs2.out (by omega) (by omega)).mono ?_)
          rintro e W3 ⟨rfl, hs3, hb3⟩
          have b3 : Hid (W3.heap[bk]? = some (vB 2 0 ⟨#[]⟩)) := (hb3.block _ hbV (Ne.symm hgb)).trans b2.out
          have a3 : Hid (W3.heap[w.heap.size]? = some (vB 0 0 ⟨#[]⟩)) := (hb3.block _ haV (by omega)).trans a2.out
          have K3 := K2.trans hb3
          have f1 : W3.cell? ⟨bk, 2, none⟩ = some (.string ⟨#[]⟩) := (blk_cell b3.out 2).trans rfl
          have q1 := blk_frozen b3.out
          have i0 := takeT_bd 200 (some t) (by omega)
          have hV := Lib.hid (V_2 t)
          generalize res (takeT 200) ⟨#[]⟩ (some t) = r at *
          go_wp2
          go_meet
          case rel => exact ⟨_, _, _, blk_put b3.out 2 _ rfl, (blk_far a3.out hab _), Rs.far hs3 hgb (fun _ _ hh => rdU_vset hh b3.out _ _), Keep1.far K3 (by omega) _, vfit (by omega) (by omega) (by omega) (by omega) i0, hV.out⟩
        · by_cases h3 : c = 3
          · subst h3
            obtain rfl : k = 3 := hkc
            go_wp2_with fail
            (with_reducible refine (byte101 g (some t) _ hs2.out).mono ?_)
            rintro e W3 ⟨rfl, hs3, hb3⟩
            have b3 : Hid (W3.heap[bk]? = some (vB 3 0 ⟨#[]⟩)) := (hb3.block _ hbV (Ne.symm hgb)).trans b2.out
            have a3 : Hid (W3.heap[w.heap.size]? = some (vB 0 0 ⟨#[]⟩)) := (hb3.block _ haV (by omega)).trans a2.out
            have K3 := K2.trans hb3
            have f1 : W3.cell? ⟨bk, 1, none⟩ = some (.int .i64 0) := (blk_cell b3.out 1).trans rfl
            have q1 := blk_frozen b3.out
            obtain ⟨i0, i1⟩ := takeB_bd (some t)
            have hV := Lib.hid (V_3 t)
            generalize res takeB 0 (some t) = r at *
            go_wp2
            go_meet
            case rel => exact ⟨_, _, _, blk_put b3.out 1 _ rfl, (blk_far a3.out hab _), Rs.far hs3 hgb (fun _ _ hh => rdU_vset hh b3.out _ _), Keep1.far K3 (by omega) _, vfit (by omega) (by omega) (by omega) (by omega) (Nat.zero_le _), hV.out⟩
          · have n1 : ¬ k = 1 := fun e => h1 (UInt8.toNat_inj.1 (by show c.toNat = 1; omega))
            have n2 : ¬ k = 2 := fun e => h2 (UInt8.toNat_inj.1 (by show c.toNat = 2; omega))
            have n3 : ¬ k = 3 := fun e => h3 (UInt8.toNat_inj.1 (by show c.toNat = 3; omega))
            have m1 : (k == 1) = false := by simpa using n1
            have m2 : (k == 2) = false := by simpa using n2
            have m3 : (k == 3) = false := by simpa using n3
            have hkc := Lib.hid hkc
            have hV := Lib.hid (V_x c t (some t) h1 h2 h3)
            clear h1 h2 h3
            go_wp2
            go_meet
            case rel => exact ⟨0, ⟨#[]⟩, some t, b2.out, a2.out, hs2.out, K2, vfit (by omega) (by omega) (by omega) (by omega) (Nat.zero_le _), by rw [hV.out, hkc.out]⟩
  case rest =>
    obtain ⟨n, s, s2, b4, a4, hs4, K4, hfit, hres⟩ := hcut
    have d0 : wc.cell? ⟨bk, 0, none⟩ = some (.int .i64 k) := (blk_cell b4 0).trans rfl
    have d1 : wc.cell? ⟨bk, 1, none⟩ = some (.int .i64 n) := (blk_cell b4 1).trans rfl
    have d2 : wc.cell? ⟨bk, 2, none⟩ = some (.string s) := (blk_cell b4 2).trans rfl
    have PA4 : Below wc.heap.size wc (wc.alloc (.cells #[.int .i64 k, .int .i64 n, .string s] 56)) := by go_grown
    have rv : RdV (wc.alloc (.cells #[.int .i64 k, .int .i64 n, .string s] 56)) (some ⟨wc.heap.size, 0, none⟩) 1 [⟨k, n, s⟩] := by
      refine ⟨rfl, by omega, fun _ => ⟨_, _, rfl, fun i hi => ?_⟩⟩
      obtain rfl : i = 0 := by omega
      exact ⟨by go_simp; rfl, by go_simp; rfl, by go_simp; rfl, hfit⟩
    have e0 := pw_cell_below PA4 d0
    have e1 := pw_cell_below PA4 d1
    have e2 := pw_cell_below PA4 d2
    have b5 := Lib.hid ((PA4.block _ (blk_lt b4)).trans b4)
    have a5 := Lib.hid ((PA4.block _ (blk_lt a4)).trans a4)
    have hs5 := Lib.hid (hs4.below PA4)
    have K5 := K4.trans (Keep1.below (g := g) PA4)
    have hres := Lib.hid hres
    clear b2 a2 hs2 hbV haV K2 b4 a4 hs4
    go_wp2_with fail
    clear d0 d1 d2
    generalize wc.alloc (.cells #[.int .i64 k, .int .i64 n, .string s] 56) = Y at *
    (with_reducible refine (right97 _ 1 1 [⟨k, n, s⟩] _ rv).mono ?_)
    rintro e W6 ⟨rfl, hB6⟩
    have e0 := pw_cell_below hB6 e0
    have e1 := pw_cell_below hB6 e1
    have e2 := pw_cell_below hB6 e2
    have b6 := Lib.hid ((hB6.block _ (blk_lt b5.out)).trans b5.out)
    have a6 := Lib.hid ((hB6.block _ (blk_lt a5.out)).trans a5.out)
    have hs6 := Lib.hid (hs5.out.below hB6)
    have K6 := K5.trans (Keep1.below (g := g) hB6)
    have hgb6 : bk ≠ g := Ne.symm hgb
    rw [show allV [(⟨k, n, s⟩ : Vl)] 1 = okV ⟨k, n, s⟩ by simp [allV, el]]
    cases hok : okV ⟨k, n, s⟩ with
    | false =>
      have hR : Hid (res takeV zV st = (zV, none)) := by show _ = _; rw [hres.out, fin_wrong hok]
      clear e0 e1 e2 hok
      go_wp2_with fail
      (with_reducible refine (fail87 g s2 _ hs6.out).mono ?_)
      rintro e W7 ⟨rfl, hs7, hb7⟩
      have a7 := Lib.hid ((hb7.block _ (blk_lt a6.out) (by omega)).trans a6.out)
      have K7 := K6.trans hb7
      have hs7 := Lib.hid hs7
      go_wp2_with fail
      (with_reducible refine (good52 g none _ hs7.out).mono ?_)
      rintro e W8 ⟨rfl, rfl⟩
      dsimp only [Option.isSome]
      have g0 : W7.cell? ⟨w.heap.size, 0, none⟩ = some (.int .i64 0) := (blk_cell a7.out 0).trans rfl
      have g1 : W7.cell? ⟨w.heap.size, 1, none⟩ = some (.int .i64 0) := (blk_cell a7.out 1).trans rfl
      have g2 : W7.cell? ⟨w.heap.size, 2, none⟩ = some (.string ⟨#[]⟩) := (blk_cell a7.out 2).trans rfl
      have q0 := blk_frozen a7.out
      go_wp2
      refine bodyPost_ret (results_cell_row rfl _ _ w.heap.size 56 #[.int .i64 0, .int .i64 0, .string ⟨#[]⟩] (0, 0) _ rfl (blk_put (blk_put (blk_put a7.out 0 _ rfl) 1 _ rfl) 2 _ rfl) Try.underlying56 rfl (by kernel_rfl)) rfl ?_
      have hga : g ≠ w.heap.size := by omega
      refine ⟨by rw [hR.out]; rfl, ?_, Keep1.far (Keep1.far (Keep1.far K7 (Nat.le_refl _) _) (Nat.le_refl _) _) (Nat.le_refl _) _⟩
      rw [hR.out]
      exact Rs.far (Rs.far (Rs.far hs7.out hga (fun _ _ hh => rdU_vset hh a7.out _ _)) hga (fun _ _ hh => rdU_vset hh (blk_put a7.out 0 _ rfl) _ _)) hga (fun _ _ hh => rdU_vset hh (blk_put (blk_put a7.out 0 _ rfl) 1 _ rfl) _ _)
    | true =>
      cases s2 with
      | none =>
        have hR : Hid (res takeV zV st = (zV, none)) := by show _ = _; rw [hres.out, fin_bad]
        clear e0 e1 e2 hok
        go_wp2_with fail
        (with_reducible refine (good52 g none _ hs6.out).mono ?_)
        rintro e W8 ⟨rfl, rfl⟩
        dsimp only [Option.isSome]
        have g0 : W6.cell? ⟨w.heap.size, 0, none⟩ = some (.int .i64 0) := (blk_cell a6.out 0).trans rfl
        have g1 : W6.cell? ⟨w.heap.size, 1, none⟩ = some (.int .i64 0) := (blk_cell a6.out 1).trans rfl
        have g2 : W6.cell? ⟨w.heap.size, 2, none⟩ = some (.string ⟨#[]⟩) := (blk_cell a6.out 2).trans rfl
        have q0 := blk_frozen a6.out
        go_wp2
        refine bodyPost_ret (results_cell_row rfl _ _ w.heap.size 56 #[.int .i64 0, .int .i64 0, .string ⟨#[]⟩] (0, 0) _ rfl (blk_put (blk_put (blk_put a6.out 0 _ rfl) 1 _ rfl) 2 _ rfl) Try.underlying56 rfl (by kernel_rfl)) rfl ?_
        have hga : g ≠ w.heap.size := by omega
        refine ⟨by rw [hR.out]; rfl, ?_, Keep1.far (Keep1.far (Keep1.far K6 (Nat.le_refl _) _) (Nat.le_refl _) _) (Nat.le_refl _) _⟩
        rw [hR.out]
        exact Rs.far (Rs.far (Rs.far hs6.out hga (fun _ _ hh => rdU_vset hh a6.out _ _)) hga (fun _ _ hh => rdU_vset hh (blk_put a6.out 0 _ rfl) _ _)) hga (fun _ _ hh => rdU_vset hh (blk_put (blk_put a6.out 0 _ rfl) 1 _ rfl) _ _)
      | some r =>
        have hR : Hid (res takeV zV st = (⟨k, n, s⟩, some r)) := by show _ = _; rw [hres.out, fin_ok hok]
        clear hok
        go_wp2_with fail
        (with_reducible refine (good52 g (some r) _ hs6.out).mono ?_)
        rintro e W8 ⟨rfl, rfl⟩
        dsimp only [Option.isSome]
        have g0 : W6.cell? ⟨w.heap.size, 0, none⟩ = some (.int .i64 0) := (blk_cell a6.out 0).trans rfl
        have g1 : W6.cell? ⟨w.heap.size, 1, none⟩ = some (.int .i64 0) := (blk_cell a6.out 1).trans rfl
        have g2 : W6.cell? ⟨w.heap.size, 2, none⟩ = some (.string ⟨#[]⟩) := (blk_cell a6.out 2).trans rfl
        have q0 := blk_frozen a6.out
        go_wp2
        refine bodyPost_ret (results_cell_row rfl _ _ w.heap.size 56 #[.int .i64 k, .int .i64 n, .string s] (0, 0) _ rfl (blk_put (blk_put (blk_put a6.out 0 _ rfl) 1 _ rfl) 2 _ rfl) Try.underlying56 rfl (by kernel_rfl)) rfl ?_
        have hga : g ≠ w.heap.size := by omega
        refine ⟨by rw [hR.out], ?_, Keep1.far (Keep1.far (Keep1.far K6 (Nat.le_refl _) _) (Nat.le_refl _) _) (Nat.le_refl _) _⟩
        rw [hR.out]
        exact Rs.far (Rs.far (Rs.far hs6.out hga (fun _ _ hh => rdU_vset hh a6.out _ _)) hga (fun _ _ hh => rdU_vset hh (blk_put a6.out 0 _ rfl) _ _)) hga (fun _ _ hh => rdU_vset hh (blk_put (blk_put a6.out 0 _ rfl) 1 _ rfl) _ _)
end Go.Proofs.Ytegkclehijdbiaa.CD

set_option linter.unusedSimpArgs false
set_option linter.unusedVariables false
namespace Go.Proofs.Ytegkclehijdbiaa.CE
open Go.RowKit Go.Proofs.YtegkclehijdbiaaW.PrintWords Go.Proofs.Ytegkclehijdbiaa.V1 Go.Proofs.Ytegkclehijdbiaa.V2 Go.Proofs.Ytegkclehijdbiaa.V3 Go.Proofs.Ytegkclehijdbiaa.N1 Go.Proofs.Ytegkclehijdbiaa.N2 Go.Proofs.Ytegkclehijdbiaa.N3 Go.Proofs.Ytegkclehijdbiaa.CA Go.Proofs.Ytegkclehijdbiaa.CB Go.Proofs.Ytegkclehijdbiaa.CC Go.Proofs.Ytegkclehijdbiaa.CD Go.Proofs.Ytegkclehijdbiaa.V8
open Go.Proofs.YtegkclehijdbiaaW.PrintLast hiding takeB

theorem fin_fit {v : Vl} (s2 : Option (List UInt8)) (h : v.Fit) : (fin v s2).1.Fit := by
  have hz : zV.Fit := vfit (by decide) (by decide) (by decide) (by decide) (Nat.zero_le _)
  unfold fin
  split
  · exact hz
  · exact h
theorem v_fit (st : Option (List UInt8)) : (res takeV zV st).1.Fit := by
  have hz : zV.Fit := vfit (by decide) (by decide) (by decide) (by decide) (Nat.zero_le _)
  cases st with
  | none => exact hz
  | some l =>
    cases l with
    | nil => exact hz
    | cons c t =>
      by_cases h1 : c = 1
      · subst h1
        obtain ⟨i0, i1⟩ := takeI_bd (some t)
        rw [V_1]; exact fin_fit _ (vfit (by omega) (by omega) i0 i1 (Nat.zero_le _))
      · by_cases h2 : c = 2
        · subst h2
          rw [V_2]; exact fin_fit _ (vfit (by omega) (by omega) (by omega) (by omega) (takeT_bd 200 (some t) (by omega)))
        · by_cases h3 : c = 3
          · subst h3
            obtain ⟨i0, i1⟩ := takeB_bd (some t)
            rw [V_3]; exact fin_fit _ (vfit (by omega) (by omega) (by omega) (by omega) (Nat.zero_le _))
          · have := c.toNat_lt
            rw [V_x c t none h1 h2 h3]; exact fin_fit _ (vfit (by omega) (by omega) (by omega) (by omega) (Nat.zero_le _))
theorem takeS_le {most n : Int} {l r : List UInt8} (h : takeS most l = some (n, r)) : r.length < l.length := by
  unfold takeS at h
  split at h
  · cases h
  · rename_i m q e
    split at h
    · cases h
    · simp only [Option.some.injEq, Prod.mk.injEq] at h
      rw [← h.2]; exact (takeN_lt e).2
theorem takeI_le {n : Int} {l r : List UInt8} (h : takeI l = some (n, r)) : r.length < l.length := by
  unfold takeI at h
  split at h
  · cases h
  · rename_i m q e
    simp only [Option.some.injEq, Prod.mk.injEq] at h
    rw [← h.2]; exact (takeN_lt e).2
theorem takeT_le {most : Int} {s : ByteArray} {l r : List UInt8} (h : takeT most l = some (s, r)) : r.length < l.length := by
  unfold takeT at h
  split at h
  · cases h
  · rename_i n q e
    split at h
    · cases h
    · simp only [Option.some.injEq, Prod.mk.injEq] at h
      have := takeS_le e
      rw [← h.2, List.length_drop]; omega
theorem takeV_le {v : Vl} {l r : List UInt8} (h : takeV l = some (v, r)) : r.length < l.length := by
  cases l with
  | nil => cases h
  | cons c t =>
    rw [takeV] at h
    split at h
    · split at h
      · cases h
      · rename_i e
        simp only [Option.some.injEq, Prod.mk.injEq] at h
        have := takeI_le e
        rw [← h.2]; simp; omega
    · split at h
      · split at h
        · cases h
        · rename_i e
          simp only [Option.some.injEq, Prod.mk.injEq] at h
          have := takeT_le e
          rw [← h.2]; simp; omega
      · split at h
        · split at h
          · cases h
          · rename_i e
            split at h
            · simp only [Option.some.injEq, Prod.mk.injEq] at h
              cases t with
              | nil => cases e
              | cons d t =>
                simp only [takeB, Option.some.injEq, Prod.mk.injEq] at e
                rw [← h.2, ← e.2]; simp <;> omega
            · cases h
        · cases h
/-- A row, as far as it has been taken. -/
def more (acc : List Vl) (n : Nat) (s : Option (List UInt8)) : List Vl × Option (List UInt8) :=
  match s with
  | none => ([], none)
  | some l => match takeVs n l with
    | none => ([], none)
    | some (vs, r) => (acc ++ vs, some r)
theorem more_zero (acc : List Vl) (l : List UInt8) : more acc 0 (some l) = (acc, some l) := by simp [more, takeVs]
theorem more_step (acc : List Vl) (n : Nat) (l : List UInt8) : more acc (n + 1) (some l) = more (acc ++ [(res takeV zV (some l)).1]) n (res takeV zV (some l)).2 := by
  cases h : takeV l with
  | none => rw [res_no (f := takeV) h]; simp [more, takeVs, h]
  | some p =>
    rw [res_yes (f := takeV) (v := p.1) (r := p.2) h]
    simp only [more, takeVs, h]
    cases takeVs n p.2 with
    | none => rfl
    | some q => simp
theorem more_start (most : Int) (st : Option (List UInt8)) : res (takeRow most) [] st = more [] (res (takeS most) 0 st).1.toNat (res (takeS most) 0 st).2 := by
  cases st with
  | none => rfl
  | some l =>
    cases h : takeS most l with
    | none =>
      rw [res_no (f := takeS most) h, res_no (f := takeRow most) (by simp only [takeRow, h])]
      rfl
    | some p =>
      rw [res_yes (f := takeS most) (v := p.1) (r := p.2) h]
      simp only [more]
      cases h2 : takeVs p.1.toNat p.2 with
      | none => exact res_no (by simp only [takeRow, h, h2])
      | some q => exact (res_yes (v := q.1) (r := q.2) (by simp only [takeRow, h, h2])).trans (by simp)
def cV (v : Vl) : List Value := [.int .i64 v.k, .int .i64 v.n, .string v.s]
theorem cV_len (v : Vl) : (cV v).length = 3 := rfl
theorem own_keep {g : Nat} {w w' : World} {base : Nat} {e : TypeId} {sz n : Nat} {v : Value} {xs : List Value} (h : w.ownsRow base e sz v n xs) (hk : Keep1 g w w') (hg : g < base) : w'.ownsRow base e sz v n xs :=
  ⟨h.1, h.2.imp id fun ⟨b, cap, cur, e1, e2, e3, r⟩ => ⟨b, cap, cur, e1, e2, (hk.block b (blk_lt e3) (by omega)).trans e3, r⟩⟩
theorem Keep1.grown {g : Nat} {a b c : World} {row : Option Nat} (h : Keep1 g a b) (hg : b.grownBy c row) (hr : ∀ k, row = some k → a.heap.size ≤ k) : Keep1 g a c :=
  ⟨hg.os.trans h.os, hg.tape.trans h.tape, hg.output.trans h.output, Nat.le_trans h.size hg.size, fun i hi hne => (hg.block i (Nat.lt_of_lt_of_le hi h.size) (fun e => by have := hr i e.symm; omega)).trans (h.block i hi hne)⟩
theorem rdV_own {w : World} {base n cap g : Nat} {l : List Vl} (h : w.ownsRow base 56 3 (.slice (some ⟨g, 0, none⟩) n cap) n (l.flatMap cV)) (hl : l.length = n) (hn : n ≤ 9223372036854775807) (hf : ∀ v ∈ l, v.Fit) : RdV w (some ⟨g, 0, none⟩) n l := by
  refine ⟨hl, hn, fun _ => ⟨g, 0, rfl, fun i hi => ?_⟩⟩
  have hc := fun j u hu => h.cells (g := g) rfl j u hu
  have h0 := hc (i * 3 + 0) (.int .i64 (el l i).k) (by rw [flat_get cV 3 cV_len l i 0 (by omega) (by omega)]; rfl)
  have h1 := hc (i * 3 + 1) (.int .i64 (el l i).n) (by rw [flat_get cV 3 cV_len l i 1 (by omega) (by omega)]; rfl)
  have h2 := hc (i * 3 + 2) (.string (el l i).s) (by rw [flat_get cV 3 cV_len l i 2 (by omega) (by omega)]; rfl)
  rw [add_plain] at h0 h1 h2
  rw [Nat.zero_add]
  refine ⟨h0, h1, h2, hf _ ?_⟩
  have : el l i = l[i]'(by omega) := by simp [el, List.getD, show i < l.length by omega]
  rw [this]; exact List.getElem_mem _
theorem info56 : (Try.prog.info? 56).map (fun i => (i.zero, i.size, i.bytes)) = some (some (.agg #[.int .i64 0, .int .i64 0, .string ⟨#[]⟩]), 3, 32) := by kernel_rfl
/-- What Row leaves. -/
def StL (w : World) (g : Nat) (p : List Vl × Option (List UInt8)) (e : Ending) (w' : World) : Prop := ∃ A n c, e = .returned (.slice A n c) ∧ RdV w' A n p.1 ∧ n ≤ c ∧ c ≤ 9223372036854775807 ∧ (∀ ad, A = some ad → w.heap.size ≤ ad.block) ∧ Rs w' g p.2 ∧ Keep1 g w w'
theorem rdV_nil (w : World) (A : Option Addr) : RdV w A 0 [] := ⟨rfl, by omega, fun h => absurd h (by omega)⟩
/-- Row's loop. -/
def RwL (w : World) (g : Nat) (R : List Vl × Option (List UInt8)) (kq : Nat) (v5 v6 : Value) (wr : World) : Prop := ∃ acc s, v6 = .int .i64 (kq : Int) ∧ wr.ownsRow w.heap.size 56 3 v5 acc.length (acc.flatMap cV) ∧ (∀ v ∈ acc, v.Fit) ∧ Rs wr g s ∧ Keep1 g w wr ∧ more acc kq s = R ∧ (∀ l, s = some l → acc.length + l.length ≤ 9000000) ∧ kq ≤ 9223372036854775807
end Go.Proofs.Ytegkclehijdbiaa.CE

set_option linter.unusedSimpArgs false
set_option linter.unusedVariables false
namespace Go.Proofs.Ytegkclehijdbiaa.CF
open Go.RowKit Go.Proofs.YtegkclehijdbiaaW.PrintWords Go.Proofs.Ytegkclehijdbiaa.V1 Go.Proofs.Ytegkclehijdbiaa.V2 Go.Proofs.Ytegkclehijdbiaa.V3 Go.Proofs.Ytegkclehijdbiaa.N1 Go.Proofs.Ytegkclehijdbiaa.N2 Go.Proofs.Ytegkclehijdbiaa.N3 Go.Proofs.Ytegkclehijdbiaa.CA Go.Proofs.Ytegkclehijdbiaa.CB Go.Proofs.Ytegkclehijdbiaa.CC Go.Proofs.Ytegkclehijdbiaa.CD Go.Proofs.Ytegkclehijdbiaa.CE Go.Proofs.Ytegkclehijdbiaa.V8
open Go.Proofs.YtegkclehijdbiaaW.PrintLast hiding takeB

theorem res_some {α : Type} {f : List UInt8 → Option (α × List UInt8)} {d : α} {st : Option (List UInt8)} {r : List UInt8} (h : (res f d st).2 = some r) : ∃ l, st = some l ∧ f l = some ((res f d st).1, r) := by
  cases st with
  | none => cases h
  | some l =>
    refine ⟨l, rfl, ?_⟩
    cases e : f l with
    | none => rw [res_no e] at h; cases h
    | some p => rw [res_yes (v := p.1) (r := p.2) e] at h ⊢; cases h; rfl
theorem takeS_room {most : Int} {st : Option (List UInt8)} {B : Nat} (h : ∀ l, st = some l → l.length ≤ B) : ∀ l, (res (takeS most) 0 st).2 = some l → l.length ≤ B := by
  intro l hl
  obtain ⟨q, rfl, hq⟩ := res_some hl
  have := takeS_le hq
  have := h q rfl
  omega
theorem own_nil (w : World) (base : Nat) (e : TypeId) (sz : Nat) : w.ownsRow base e sz (.slice none 0 0) 0 [] := ⟨by simp, .inl ⟨rfl, rfl⟩⟩
theorem rd_from {w W : World} {g : Nat} {v5 : Value} {acc : List Vl} (hown : W.ownsRow w.heap.size 56 3 v5 acc.length (acc.flatMap cV)) (hf : ∀ v ∈ acc, v.Fit) (hn : acc.length ≤ 9000000) : ∃ A c, v5 = .slice A acc.length c ∧ RdV W A acc.length acc ∧ acc.length ≤ c ∧ c ≤ 9223372036854775807 ∧ ∀ ad, A = some ad → w.heap.size ≤ ad.block := by
  rcases hown.2 with ⟨rfl, h0⟩ | ⟨g', cap, cur, rfl, hb, hc, h1, h2, _⟩
  · obtain rfl : acc = [] := List.eq_nil_of_length_eq_zero h0
    exact ⟨none, 0, rfl, rdV_nil _ _, by omega, by omega, fun _ h => by cases h⟩
  · exact ⟨_, cap, rfl, rdV_own hown rfl (by omega) hf, h1, h2, fun ad e => by cases e; exact hb⟩
set_option maxRecDepth 8000 in
set_option maxHeartbeats 2000000 in
theorem row72 (g : Nat) (most : Int) (st : Option (List UInt8)) (w : World) (h : Rs w g st) (m0 : -9223372036854775808 ≤ most) (m1 : most ≤ 9223372036854775807) (hlen : ∀ l, st = some l → l.length ≤ 9000000) :
    Calls Try.prog 72 #[.pointer (some ⟨g, 0, none⟩), .int .i64 most] w (StL w g (res (takeRow most) [] st)) := by
  obtain ⟨i0, hi, hzz⟩ := Option.map_eq_some_iff.1 info56
  simp only [Prod.mk.injEq] at hzz
  obtain ⟨hz0, hz1, hz2⟩ := hzz
  have hi := Lib.hid hi
  have hz0 := Lib.hid hz0
  have hz1 := Lib.hid hz1
  have hz2 := Lib.hid hz2
  have H := Lib.hid h
  have hR := Lib.hid (more_start most st)
  have hroom := Lib.hid (takeS_room (most := most) hlen)
  have hgw := Lib.hid h.lt
  clear h hlen
  go_enter Try.func72, Try.ntmps72
  go_wp2_with fail
  (with_reducible refine (size71 g most st _ H.out m0 m1).mono ?_)
  rintro e W1 ⟨rfl, hs1, hk1⟩
  obtain ⟨s0, s1⟩ := takeS_bd most st m1
  generalize res (takeS most) 0 st = p at *
  obtain ⟨kn, st1⟩ := p
  dsimp only at *
  obtain ⟨kq, rfl⟩ : ∃ x : Nat, kn = (x : Int) := ⟨kn.toNat, by omega⟩
  rw [Int.toNat_natCast] at hR
  generalize res (takeRow most) [] st = R at *
  have hs1 := Lib.hid hs1
  have hkq : kq ≤ 9223372036854775807 := by omega
  go_wp2
  go_loopg [5, 6] kq (fun k v5 v6 wr => RwL w g R k v5 v6 wr)
  case atStart =>
    exact ⟨[], st1, rfl, own_nil _ _ _ _, (fun v hv => by cases hv), hs1.out, hk1, hR.out.symm, (fun l hl => by have := hroom.out l hl; simpa using this), hkq⟩
  case round =>
    obtain ⟨acc, s, rfl, hown, hfit, hs, hk, hm, hl, hb⟩ := hrel
    have hown := Lib.hid hown
    have hs := Lib.hid hs
    have hfit := Lib.hid hfit
    have hm := Lib.hid hm
    have hl := Lib.hid hl
    cases s with
    | none =>
      have hRn : Hid (R = ([], none)) := by show _ = _; rw [← hm.out]; rfl
      cases gk with
      | zero =>
        go_wp2_with fail
        (with_reducible refine (good52 g _ _ hs.out).mono ?_)
        rintro e W2 ⟨rfl, rfl⟩
        dsimp only [Option.isSome]
        go_wp2
        go_ret
        rw [hRn.out]
        exact ⟨none, 0, 0, rfl, rdV_nil _ _, by omega, by omega, (fun _ h => by cases h), hs.out, hk⟩
      | succ gk =>
        have c1 : (0 : Int) < ((gk + 1 : Nat) : Int) := by omega
        go_wp2_with fail
        (with_reducible refine (good52 g _ _ hs.out).mono ?_)
        rintro e W2 ⟨rfl, rfl⟩
        dsimp only [Option.isSome]
        go_wp2_with fail
        (with_reducible refine (good52 g _ _ hs.out).mono ?_)
        rintro e W2 ⟨rfl, rfl⟩
        dsimp only [Option.isSome]
        go_wp2
        go_ret
        rw [hRn.out]
        exact ⟨none, 0, 0, rfl, rdV_nil _ _, by omega, by omega, (fun _ h => by cases h), hs.out, hk⟩
    | some l =>
      have hla : acc.length ≤ 9000000 := by have := hl.out l rfl; omega
      cases gk with
      | zero =>
        have hRn : Hid (R = (acc, some l)) := by show _ = _; rw [← hm.out]; exact more_zero _ _
        obtain ⟨A, c, rfl, hrd, h1, h2, h3⟩ := rd_from (g := g) hown.out hfit.out hla
        go_wp2_with fail
        (with_reducible refine (good52 g _ _ hs.out).mono ?_)
        rintro e W2 ⟨rfl, rfl⟩
        dsimp only [Option.isSome]
        go_wp2
        go_ret
        rw [hRn.out]
        exact ⟨A, _, c, rfl, hrd, h1, h2, h3, hs.out, hk⟩
      | succ gk =>
        have c1 : (0 : Int) < ((gk + 1 : Nat) : Int) := by omega
        go_wp2_with fail
        (with_reducible refine (good52 g _ _ hs.out).mono ?_)
        rintro e W2 ⟨rfl, rfl⟩
        dsimp only [Option.isSome]
        go_wp2_with fail
        (with_reducible refine (value82 g (some l) _ hs.out).mono ?_)
        rintro e W2 ⟨rfl, hs2, hk2⟩
        have hst := Lib.hid (more_step acc gk l)
        have hvf := v_fit (some l)
        have hroom2 := Lib.hid (fun q (hq : (res takeV zV (some l)).2 = some q) => takeV_le ((res_some hq).choose_spec.2))
        have hvq : Hid (∀ q, (res takeV zV (some l)).2 = some q → q.length < l.length) := by
          intro q hq
          obtain ⟨l', e, hh⟩ := res_some hq
          cases e; exact takeV_le hh
        clear hroom2
        generalize res takeV zV (some l) = p at *
        obtain ⟨⟨a, b, c⟩, s2⟩ := p
        dsimp only [Vl.agg] at *
        have P2 : Below W2.heap.size W2 (W2.alloc (.cells #[.int .i64 a, .int .i64 b, .string c] 56)) := by go_grown
        have hown2 : Hid ((W2.alloc (.cells #[.int .i64 a, .int .i64 b, .string c] 56)).ownsRow w.heap.size 56 3 u5 acc.length (acc.flatMap cV)) := own_keep hown.out (hk2.trans (Keep1.below P2)) hgw.out
        have e2 : (W2.alloc (.cells #[.int .i64 a, .int .i64 b, .string c] 56)).heap[W2.heap.size]? = some (.cells #[.int .i64 a, .int .i64 b, .string c] 56 (0, 0)) := heap_alloc_new W2 _
        have hnews : Hid (∀ j u, (cV ⟨a, b, c⟩)[j]? = some u → (W2.alloc (.cells #[.int .i64 a, .int .i64 b, .string c] 56)).cell? ((⟨W2.heap.size, 0, none⟩ : Addr).add j) = some u) := by
          intro j u hu
          rw [add_plain, blk_cell e2]
          simpa [cV] using hu
        clear e2
        have c2 := Lib.hid hkq
        have hbs : w.heap.size ≤ (W2.alloc (.cells #[.int .i64 a, .int .i64 b, .string c] 56)).heap.size := by have := hk.size; have := hk2.size; have := P2.size; omega
        have hs2 := Lib.hid hs2
        go_wp2_with (at_builtin; refine wpList_append_own_at (W2.alloc (.cells #[.int .i64 a, .int .i64 b, .string c] 56)) rfl (.tmp 18) (.tmp 21) 48 rfl w.heap.size 56 i0 (.agg #[.int .i64 0, .int .i64 0, .string ⟨#[]⟩]) 3 32 Try.underlying48 hi.out hz0.out hz1.out hz2.out rfl (by omega) u5 acc.length (acc.flatMap cV) rfl hown2.out ⟨W2.heap.size, 0, none⟩ 1 1 (cV ⟨a, b, c⟩) rfl rfl hnews.out (by intro u hu; simp only [cV, List.mem_cons, List.not_mem_nil, or_false] at hu; rcases hu with rfl | rfl | rfl <;> rfl) (by simp only [maxLen]; omega) (by omega) hbs ?_; intro v1 w1 hown1 hg1 _ _)
        have hgu : ∀ k, u5.ownBlock = some k → w.heap.size ≤ k := fun k e => own_base hown2.out k e
        have P3 : Below (g + 1) (W2.alloc (.cells #[.int .i64 a, .int .i64 b, .string c] 56)) w1 := (Below.refl _ _).grown hg1 (by have := hgw.out; have := hs2.out.lt; have := P2.size; omega) (fun k e => by have := hgu k e; have := hgw.out; omega)
        have K3 : Keep1 g w w1 := Keep1.grown (hk.trans (hk2.trans (Keep1.below P2))) hg1 hgu
        go_roundg gk
        case measure => omega
        case rel => exact ⟨acc ++ [⟨a, b, c⟩], s2, by congr 1, by simpa using hown1, fun v hv => by rcases List.mem_append.1 hv with h | h; exact hfit.out v h; (rw [List.mem_singleton.1 h]; exact hvf), (hs2.out.below P2).low P3, K3, by rw [← hst.out]; exact hm.out, fun q hq => by have := hvq.out q hq; have := hl.out l rfl; simp only [List.length_append, List.length_cons, List.length_nil]; omega, by omega⟩
end Go.Proofs.Ytegkclehijdbiaa.CF

set_option linter.unusedSimpArgs false
set_option linter.unusedVariables false
namespace Go.Proofs.Ytegkclehijdbiaa.CG
open Go.RowKit Go.Proofs.YtegkclehijdbiaaW.PrintWords Go.Proofs.Ytegkclehijdbiaa.V1 Go.Proofs.Ytegkclehijdbiaa.V2 Go.Proofs.Ytegkclehijdbiaa.V3 Go.Proofs.Ytegkclehijdbiaa.N1 Go.Proofs.Ytegkclehijdbiaa.N2 Go.Proofs.Ytegkclehijdbiaa.N3 Go.Proofs.Ytegkclehijdbiaa.CA Go.Proofs.Ytegkclehijdbiaa.CB Go.Proofs.Ytegkclehijdbiaa.CC Go.Proofs.Ytegkclehijdbiaa.CD Go.Proofs.Ytegkclehijdbiaa.CE Go.Proofs.Ytegkclehijdbiaa.CF Go.Proofs.Ytegkclehijdbiaa.V8
open Go.Proofs.YtegkclehijdbiaaW.PrintLast hiding takeB

theorem takeVs_le : ∀ (n : Nat) {vs : List Vl} {l r : List UInt8}, takeVs n l = some (vs, r) → r.length ≤ l.length
  | 0, vs, l, r, h => by simp only [takeVs, Option.some.injEq, Prod.mk.injEq] at h; rw [h.2]; exact Nat.le_refl _
  | n + 1, vs, l, r, h => by
    rw [takeVs] at h
    split at h
    · cases h
    · rename_i e
      split at h
      · cases h
      · rename_i e2
        simp only [Option.some.injEq, Prod.mk.injEq] at h
        have := takeV_le e
        have := takeVs_le n e2
        rw [← h.2]; omega
theorem takeRow_le {most : Int} {vs : List Vl} {l r : List UInt8} (h : takeRow most l = some (vs, r)) : r.length < l.length := by
  unfold takeRow at h
  split at h
  · cases h
  · rename_i e
    have := takeS_le e
    have := takeVs_le _ h
    omega
/-- Rows, as far as they have been taken. -/
def moreR (cols : Int) (acc : List (List Vl)) (n : Nat) (s : Option (List UInt8)) : List (List Vl) × Option (List UInt8) :=
  match s with
  | none => ([], none)
  | some l => match takeRs cols n l with
    | none => ([], none)
    | some (vs, r) => (acc ++ vs, some r)
theorem moreR_zero (cols : Int) (acc : List (List Vl)) (l : List UInt8) : moreR cols acc 0 (some l) = (acc, some l) := by simp [moreR, takeRs]
theorem moreR_step (cols : Int) (acc : List (List Vl)) (n : Nat) (l : List UInt8) : moreR cols acc (n + 1) (some l) = moreR cols (acc ++ [(res (takeRow cols) [] (some l)).1]) n (res (takeRow cols) [] (some l)).2 := by
  cases h : takeRow cols l with
  | none => rw [res_no (f := takeRow cols) h]; simp [moreR, takeRs, h]
  | some p =>
    rw [res_yes (f := takeRow cols) (v := p.1) (r := p.2) h]
    simp only [moreR, takeRs, h]
    cases takeRs cols n p.2 with
    | none => rfl
    | some q => simp
theorem moreR_start (most cols : Int) (st : Option (List UInt8)) : res (takeRows most cols) [] st = moreR cols [] (res (takeS most) 0 st).1.toNat (res (takeS most) 0 st).2 := by
  cases st with
  | none => rfl
  | some l =>
    cases h : takeS most l with
    | none =>
      rw [res_no (f := takeS most) h, res_no (f := takeRows most cols) (by simp only [takeRows, h])]
      rfl
    | some p =>
      rw [res_yes (f := takeS most) (v := p.1) (r := p.2) h]
      simp only [moreR]
      cases h2 : takeRs cols p.1.toNat p.2 with
      | none => exact res_no (by simp only [takeRows, h, h2])
      | some q => exact (res_yes (v := q.1) (r := q.2) (by simp only [takeRows, h, h2])).trans (by simp)
/-- A row held in a slot of rows. -/
def Slot (w : World) (base : Nat) (v u : Value) (l : List Vl) : Prop := ∃ A n c, u = .slice A n c ∧ RdV w A n l ∧ n ≤ c ∧ c ≤ 9223372036854775807 ∧ (0 < n → ∀ ad, A = some ad → base ≤ ad.block ∧ v.ownBlock ≠ some ad.block)
theorem rdV_heap {w w' : World} {A : Option Addr} {n : Nat} {l : List Vl} (h : RdV w A n l) (hk : 0 < n → ∀ ad, A = some ad → w'.heap[ad.block]? = w.heap[ad.block]?) : RdV w' A n l := by
  refine ⟨h.1, h.2.1, fun hn => ?_⟩
  obtain ⟨g, o, e, hc⟩ := h.2.2 hn
  refine ⟨g, o, e, fun i hi => ?_⟩
  have hh := hk hn _ e
  have hcell : ∀ j, w'.cell? ⟨g, j, none⟩ = w.cell? ⟨g, j, none⟩ := fun j => by unfold World.cell?; rw [hh]
  obtain ⟨c0, c1, c2, hf⟩ := hc i hi
  exact ⟨(hcell _).trans c0, (hcell _).trans c1, (hcell _).trans c2, hf⟩
theorem rdV_lt {w : World} {A : Option Addr} {n : Nat} {l : List Vl} (h : RdV w A n l) (hn : 0 < n) : ∀ ad, A = some ad → ad.block < w.heap.size := by
  intro ad e
  obtain ⟨g, o, e', hc⟩ := h.2.2 hn
  have := (hc 0 hn).1
  rw [e] at e'; cases e'
  exact World.block_lt_of_cell? _ _ this
/-- Rows' loop. -/
def RsL (w : World) (g : Nat) (cols : Int) (R : List (List Vl) × Option (List UInt8)) (kq : Nat) (v7 v8 : Value) (wr : World) : Prop := ∃ (acc : List (Value × List Vl)) (s : Option (List UInt8)), v8 = .int .i64 (kq : Int) ∧ wr.ownsRow w.heap.size 48 1 v7 acc.length (acc.map Prod.fst) ∧ (∀ p ∈ acc, Slot wr w.heap.size v7 p.1 p.2) ∧ Rs wr g s ∧ Keep1 g w wr ∧ moreR cols (acc.map Prod.snd) kq s = R ∧ (∀ l, s = some l → acc.length + l.length ≤ 9000000) ∧ kq ≤ 9223372036854775807
/-- What Rows leaves. -/
def StR (w : World) (g : Nat) (p : List (List Vl) × Option (List UInt8)) (e : Ending) (w' : World) : Prop := ∃ A n c, e = .returned (.slice A n c) ∧ RdR w' A n p.1 ∧ n ≤ c ∧ c ≤ 9223372036854775807 ∧ (∀ ad, A = some ad → w.heap.size ≤ ad.block) ∧ Rs w' g p.2 ∧ Keep1 g w w'
theorem rdR_nil (w : World) (A : Option Addr) : RdR w A 0 [] := ⟨rfl, by omega, fun h => absurd h (by omega)⟩
theorem rdR_from {w W : World} {v7 : Value} {acc : List (Value × List Vl)} (hown : W.ownsRow w.heap.size 48 1 v7 acc.length (acc.map Prod.fst)) (hs : ∀ p ∈ acc, Slot W w.heap.size v7 p.1 p.2) (hn : acc.length ≤ 9000000) : ∃ A c, v7 = .slice A acc.length c ∧ RdR W A acc.length (acc.map Prod.snd) ∧ acc.length ≤ c ∧ c ≤ 9223372036854775807 ∧ ∀ ad, A = some ad → w.heap.size ≤ ad.block := by
  have hown' := hown
  rcases hown.2 with ⟨rfl, h0⟩ | ⟨g', cap, cur, rfl, hb, hc, h1, h2, _⟩
  · obtain rfl : acc = [] := List.eq_nil_of_length_eq_zero h0
    exact ⟨none, 0, rfl, rdR_nil _ _, by omega, by omega, fun _ h => by cases h⟩
  · refine ⟨_, cap, rfl, ⟨by simp, by omega, fun _ => ⟨g', 0, rfl, fun i hi => ?_⟩⟩, h1, h2, fun ad e => by cases e; exact hb⟩
    obtain ⟨A, n, c, hu, hr, hc1, hc2, _⟩ := hs _ (List.getElem_mem hi)
    have := hown'.cells (g := g') rfl i (acc[i]).1 (by simp [hi])
    rw [add_plain] at this
    refine ⟨A, n, c, ?_, ?_, hc1, hc2⟩
    · rw [show 0 + i * 1 = 0 + i by omega]; rw [hu] at this; simpa using this
    · have e : el (acc.map Prod.snd) i = (acc[i]).2 := by simp [el, List.getD, hi]
      rw [e]; exact hr
theorem info48 : (Try.prog.info? 48).map (fun i => (i.zero, i.size, i.bytes)) = some (some (.slice none 0 0), 1, 24) := by kernel_rfl
theorem takeRow_room {cols : Int} {l : List UInt8} : ∀ q, (res (takeRow cols) [] (some l)).2 = some q → q.length < l.length := by
  intro q hq
  obtain ⟨l', e, hh⟩ := res_some hq
  cases e; exact takeRow_le hh
set_option maxRecDepth 8000 in
set_option maxHeartbeats 2000000 in
theorem rows50 (g : Nat) (most cols : Int) (st : Option (List UInt8)) (w : World) (h : Rs w g st) (m0 : -9223372036854775808 ≤ most) (m1 : most ≤ 9223372036854775807) (k0 : -9223372036854775808 ≤ cols) (k1 : cols ≤ 9223372036854775807) (hlen : ∀ l, st = some l → l.length ≤ 9000000) :
    Calls Try.prog 50 #[.pointer (some ⟨g, 0, none⟩), .int .i64 most, .int .i64 cols] w (StR w g (res (takeRows most cols) [] st)) := by
  obtain ⟨i0, hi, hzz⟩ := Option.map_eq_some_iff.1 info48
  simp only [Prod.mk.injEq] at hzz
  obtain ⟨hz0, hz1, hz2⟩ := hzz
  replace hi := Lib.hid hi
  replace hz0 := Lib.hid hz0
  replace hz1 := Lib.hid hz1
  replace hz2 := Lib.hid hz2
  have H := Lib.hid h
  have hR := Lib.hid (moreR_start most cols st)
  have hroom := Lib.hid (takeS_room (most := most) hlen)
  have hgw := Lib.hid h.lt
  clear h hlen
  go_enter Try.func50, Try.ntmps50
  go_wp2_with fail
  (with_reducible refine (size71 g most st _ H.out m0 m1).mono ?_)
  rintro e W1 ⟨rfl, hs1, hk1⟩
  obtain ⟨s0, s1⟩ := takeS_bd most st m1
  generalize res (takeS most) 0 st = p at *
  obtain ⟨kn, st1⟩ := p
  dsimp only at *
  obtain ⟨kq, rfl⟩ : ∃ x : Nat, kn = (x : Int) := ⟨kn.toNat, by omega⟩
  rw [Int.toNat_natCast] at hR
  generalize res (takeRows most cols) [] st = R at *
  replace hs1 := Lib.hid hs1
  have hkq : kq ≤ 9223372036854775807 := by omega
  go_wp2
  go_loopg [7, 8] kq (fun k v7 v8 wr => RsL w g cols R k v7 v8 wr)
  case atStart =>
    exact ⟨[], st1, rfl, CF.own_nil _ _ _ _, (fun v hv => by cases hv), hs1.out, hk1, hR.out.symm, (fun l hl => by have := hroom.out l hl; simpa using this), hkq⟩
  case round =>
    obtain ⟨acc, s, rfl, hown, hfit, hs, hk, hm, hl, hb⟩ := hrel
    replace hown := Lib.hid hown
    replace hs := Lib.hid hs
    replace hfit := Lib.hid hfit
    replace hm := Lib.hid hm
    replace hl := Lib.hid hl
    cases s with
    | none =>
      have hRn : Hid (R = ([], none)) := by show _ = _; rw [← hm.out]; rfl
      cases gk with
      | zero =>
        go_wp2_with fail
        (with_reducible refine (good52 g _ _ hs.out).mono ?_)
        rintro e W2 ⟨rfl, rfl⟩
        dsimp only [Option.isSome]
        go_wp2
        go_ret
        rw [hRn.out]
        exact ⟨none, 0, 0, rfl, rdR_nil _ _, by omega, by omega, (fun _ h => by cases h), hs.out, hk⟩
      | succ gk =>
        have c1 : (0 : Int) < ((gk + 1 : Nat) : Int) := by omega
        go_wp2_with fail
        (with_reducible refine (good52 g _ _ hs.out).mono ?_)
        rintro e W2 ⟨rfl, rfl⟩
        dsimp only [Option.isSome]
        go_wp2_with fail
        (with_reducible refine (good52 g _ _ hs.out).mono ?_)
        rintro e W2 ⟨rfl, rfl⟩
        dsimp only [Option.isSome]
        go_wp2
        go_ret
        rw [hRn.out]
        exact ⟨none, 0, 0, rfl, rdR_nil _ _, by omega, by omega, (fun _ h => by cases h), hs.out, hk⟩
    | some l =>
      have hla : acc.length ≤ 9000000 := by have := hl.out l rfl; omega
      cases gk with
      | zero =>
        have hRn : Hid (R = (acc.map Prod.snd, some l)) := by show _ = _; rw [← hm.out]; exact moreR_zero _ _ _
        obtain ⟨A, c, rfl, hrd, h1, h2, h3⟩ := rdR_from hown.out hfit.out hla
        go_wp2_with fail
        (with_reducible refine (good52 g _ _ hs.out).mono ?_)
        rintro e W2 ⟨rfl, rfl⟩
        dsimp only [Option.isSome]
        go_wp2
        go_ret
        rw [hRn.out]
        exact ⟨A, _, c, rfl, hrd, h1, h2, h3, hs.out, hk⟩
      | succ gk =>
        have c1 : (0 : Int) < ((gk + 1 : Nat) : Int) := by omega
        go_wp2_with fail
        (with_reducible refine (good52 g _ _ hs.out).mono ?_)
        rintro e W2 ⟨rfl, rfl⟩
        dsimp only [Option.isSome]
        go_wp2_with fail
        (with_reducible refine (row72 g cols (some l) _ hs.out k0 k1 (fun l' e => by cases e; have := hl.out l rfl; omega)).mono ?_)
        rintro e W2 ⟨A, n, c, rfl, hrd, hn1, hn2, hA, hs2, hk2⟩
        have hst := Lib.hid (moreR_step cols (acc.map Prod.snd) gk l)
        have hvq := Lib.hid (takeRow_room (cols := cols) (l := l))
        generalize res (takeRow cols) [] (some l) = p at *
        obtain ⟨row, s2⟩ := p
        dsimp only at *
        replace hrd := Lib.hid hrd
        replace hA := Lib.hid hA
        have P2 : Below W2.heap.size W2 (W2.alloc (.cells #[.slice A n c] 48)) := by go_grown
        have hown2 : Hid ((W2.alloc (.cells #[.slice A n c] 48)).ownsRow w.heap.size 48 1 u7 acc.length (acc.map Prod.fst)) := own_keep hown.out (hk2.trans (Keep1.below P2)) hgw.out
        have e2 : (W2.alloc (.cells #[.slice A n c] 48)).heap[W2.heap.size]? = some (.cells #[.slice A n c] 48 (0, 0)) := heap_alloc_new W2 _
        have hnews : Hid (∀ j u, [Value.slice A n c][j]? = some u → (W2.alloc (.cells #[.slice A n c] 48)).cell? ((⟨W2.heap.size, 0, none⟩ : Addr).add j) = some u) := by
          intro j u hu
          rw [add_plain, blk_cell e2]
          simpa using hu
        clear e2
        have c2 := Lib.hid hkq
        have hbs : w.heap.size ≤ (W2.alloc (.cells #[.slice A n c] 48)).heap.size := by have := hk.size; have := hk2.size; have := P2.size; omega
        replace hs2 := Lib.hid hs2
        go_wp2_with (at_builtin; refine wpList_append_own_at (W2.alloc (.cells #[.slice A n c] 48)) rfl (.tmp 20) (.tmp 24) 36 rfl w.heap.size 48 i0 (.slice none 0 0) 1 24 Try.underlying36 hi.out hz0.out hz1.out hz2.out rfl (by omega) u7 acc.length (acc.map Prod.fst) rfl hown2.out ⟨W2.heap.size, 0, none⟩ 1 1 [.slice A n c] rfl rfl hnews.out (by intro u hu; simp only [List.mem_cons, List.not_mem_nil, or_false] at hu; rcases hu with rfl; rfl) (by simp only [maxLen]; omega) (by omega) hbs ?_; intro v1 w1 hown1 hg1 _ hob)
        have hgu : ∀ k, u7.ownBlock = some k → w.heap.size ≤ k := fun k e => own_base hown2.out k e
        have P3 : Below (g + 1) (W2.alloc (.cells #[.slice A n c] 48)) w1 := (Below.refl _ _).grown hg1 (by have := hgw.out; have := hs2.out.lt; have := P2.size; omega) (fun k e => by have := hgu k e; have := hgw.out; omega)
        have K3 : Keep1 g w w1 := Keep1.grown (hk.trans (hk2.trans (Keep1.below P2))) hg1 hgu
        have hol : ∀ k, u7.ownBlock = some k → k < wr.heap.size := fun k e => own_lt hown.out k e
        have hkeep : ∀ b, b < W2.heap.size → u7.ownBlock ≠ some b → w1.heap[b]? = W2.heap[b]? := fun b hb hne => (hg1.block b (by have := P2.size; omega) (fun e => hne e.symm)).trans (P2.block b hb)
        have hnew : ∀ b, b < W2.heap.size → u7.ownBlock ≠ some b → v1.ownBlock ≠ some b := by
          intro b hb hne e
          rcases hob with h | h
          · exact hne (h.symm.trans e)
          · rw [h] at e; injection e with e; have := P2.size; omega
        go_roundg gk
        case measure => omega
        case rel =>
          refine ⟨acc ++ [(.slice A n c, row)], s2, by congr 1, by simpa using hown1, fun p hp => ?_, (hs2.out.below P2).low P3, K3, by rw [List.map_append]; rw [← hm.out]; exact hst.out.symm, fun q hq => by have := hvq.out q hq; have := hl.out l rfl; simp only [List.length_append, List.length_cons, List.length_nil]; omega, by omega⟩
          rcases List.mem_append.1 hp with hp | hp
          · obtain ⟨A', n', c', e1, hr', x1, x2, x3⟩ := hfit.out p hp
            refine ⟨A', n', c', e1, rdV_heap hr' (fun hn ad e => ?_), x1, x2, fun hn ad e => ⟨(x3 hn ad e).1, ?_⟩⟩
            · have b1 := rdV_lt hr' hn ad e
              exact (hkeep _ (Nat.lt_of_lt_of_le b1 hk2.size) (x3 hn ad e).2).trans (hk2.block _ b1 (by have := (x3 hn ad e).1; have := hgw.out; omega))
            · exact hnew _ (Nat.lt_of_lt_of_le (rdV_lt hr' hn ad e) hk2.size) (x3 hn ad e).2
          · obtain rfl := List.mem_singleton.1 hp
            have hne : ∀ ad, A = some ad → u7.ownBlock ≠ some ad.block := fun ad e h => by have := hA.out ad e; have := hol _ h; omega
            refine ⟨A, n, c, rfl, rdV_heap hrd.out (fun hn ad e => hkeep _ (rdV_lt hrd.out hn ad e) (hne ad e)), hn1, hn2, fun hn ad e => ⟨by have := hA.out ad e; have := hk.size; omega, hnew _ (rdV_lt hrd.out hn ad e) (hne ad e)⟩⟩
end Go.Proofs.Ytegkclehijdbiaa.CG

set_option linter.unusedSimpArgs false
set_option linter.unusedVariables false
namespace Go.Proofs.Ytegkclehijdbiaa.CH
open Go.RowKit Go.Proofs.YtegkclehijdbiaaW.PrintWords Go.Proofs.Ytegkclehijdbiaa.V1 Go.Proofs.Ytegkclehijdbiaa.V2 Go.Proofs.Ytegkclehijdbiaa.V3 Go.Proofs.Ytegkclehijdbiaa.N1 Go.Proofs.Ytegkclehijdbiaa.N2 Go.Proofs.Ytegkclehijdbiaa.N3 Go.Proofs.Ytegkclehijdbiaa.CA Go.Proofs.Ytegkclehijdbiaa.CB Go.Proofs.Ytegkclehijdbiaa.CC Go.Proofs.Ytegkclehijdbiaa.CD
open Go.Proofs.YtegkclehijdbiaaW.PrintLast hiding takeB

set_option maxHeartbeats 400000 in
theorem len43 (g : Nat) (st : Option (List UInt8)) (w : World) (h : Rs w g st) : Calls Try.prog 43 #[.pointer (some ⟨g, 0, none⟩)] w fun e w' => e = .returned (.int .i64 ((st.getD []).length : Nat)) ∧ w = w' := by
  obtain ⟨A, n, c, e, hr, h1, h2, _⟩ := h
  have f0 : w.cell? ⟨g, 0, none⟩ = some (.slice A n c) := (blk_cell e 0).trans rfl
  clear e
  go_enter Try.func43, Try.ntmps43
  go_wp2
  go_ret
  exact ⟨by rw [hr.1]; rfl, rfl⟩
set_option maxHeartbeats 400000 in
theorem len88 (g : Nat) (st : Option (List UInt8)) (w : World) (h : Rs w g st) : Calls Try.prog 88 #[.pointer (some ⟨g, 0, none⟩)] w fun e w' => e = .returned (.int .i64 ((st.getD []).length : Nat)) ∧ w = w' := by
  go_enter Try.func88, Try.ntmps88
  go_wp2_with fail
  (with_reducible refine (len43 g st w h).mono ?_)
  rintro e w' ⟨rfl, rfl⟩
  go_wp2
  go_ret
  exact ⟨rfl, rfl⟩
set_option maxHeartbeats 400000 in
theorem string42 (g : Nat) (st : Option (List UInt8)) (w : World) (h : Rs w g st) : Calls Try.prog 42 #[.pointer (some ⟨g, 0, none⟩)] w fun e w' => e = .returned (.string ⟨(st.getD []).toArray⟩) ∧ w = w' := by
  obtain ⟨A, n, c, e, hr, h1, h2, _⟩ := h
  have f0 : w.cell? ⟨g, 0, none⟩ = some (.slice A n c) := (blk_cell e 0).trans rfl
  have kb := to_string (c := c) hr
  clear e
  go_enter Try.func42, Try.ntmps42
  go_wp2
  go_ret
  exact ⟨rfl, rfl⟩
set_option maxHeartbeats 400000 in
theorem string51 (g : Nat) (st : Option (List UInt8)) (w : World) (h : Rs w g st) : Calls Try.prog 51 #[.pointer (some ⟨g, 0, none⟩)] w fun e w' => e = .returned (.string ⟨(st.getD []).toArray⟩) ∧ w = w' := by
  go_enter Try.func51, Try.ntmps51
  go_wp2_with fail
  (with_reducible refine (string42 g st w h).mono ?_)
  rintro e w' ⟨rfl, rfl⟩
  go_wp2
  go_ret
  exact ⟨rfl, rfl⟩
def ended (st : Option (List UInt8)) : Bool := match st with
  | none => false
  | some l => l.isEmpty
set_option maxHeartbeats 400000 in
theorem end73 (g : Nat) (st : Option (List UInt8)) (w : World) (h : Rs w g st) : Calls Try.prog 73 #[.pointer (some ⟨g, 0, none⟩)] w fun e w' => e = .returned (.bool (ended st)) ∧ w = w' := by
  go_enter Try.func73, Try.ntmps73
  go_wp2_with fail
  (with_reducible refine (good52 g st w h).mono ?_)
  rintro e w' ⟨rfl, rfl⟩
  cases st with
  | none =>
    dsimp only [Option.isSome]
    go_wp2
    go_ret
    exact ⟨rfl, rfl⟩
  | some l =>
    dsimp only [Option.isSome]
    go_wp2_with fail
    (with_reducible refine (len88 g _ w h).mono ?_)
    rintro e w' ⟨rfl, rfl⟩
    dsimp only [Option.getD]
    cases l with
    | nil =>
      go_wp2
      go_ret
      exact ⟨rfl, rfl⟩
    | cons c t =>
      have hb : decide ((((c :: t).length : Nat) : Int) = 0) = false := by simp; omega
      go_wp2
      go_ret
      exact ⟨rfl, rfl⟩
/-- Bytes of a string. -/
theorem rdU_of {W : World} {A : Option Addr} {s : ByteArray} (hs : s.size ≤ 9223372036854775807) (h : ReadsInt W .u8 A s.size (bytesOf s)) (hA : ∀ ad, A = some ad → ∃ g, ad = ⟨g, 0, none⟩) : RdU W A s.size s.data.toList := by
  refine ⟨Array.length_toList, hs, fun hn => ?_⟩
  obtain ⟨ad, e, hc⟩ := h.2.2 hn
  obtain ⟨g, rfl⟩ := hA _ e
  refine ⟨g, 0, e, fun i hi => ?_⟩
  have := hc i hi
  rw [V1.add_at] at this
  unfold atU
  rw [Nat.mul_one, this]
  have h' : i < s.data.toList.length := by rw [Array.length_toList]; exact hi
  simp [bytesOf, el, List.getD_eq_getElem?_getD, List.getElem?_eq_getElem h']
/-- A new reader. -/
def NewR (w : World) (s : ByteArray) (e : Ending) (w' : World) : Prop := ∃ g, e = .returned (.pointer (some ⟨g, 0, none⟩)) ∧ w.heap.size ≤ g ∧ Rs w' g (some s.data.toList) ∧ Below w.heap.size w w'
set_option maxHeartbeats 400000 in
theorem read44 (s : ByteArray) (w : World) (hs : s.size ≤ 9000000) : Calls Try.prog 44 #[.string s] w (NewR w s) := by
  have kb := fun W => print_bytes (P := Try.prog) 9 60 5 Try.underlying9 Try.underlying60 Try.underlying5 s W
  have hrd := bytes_reads w 5 s (by omega)
  have hB0 := bytes_below (Below.refl w.heap.size w) (Nat.le_refl _) 5 s
  go_enter Try.func44, Try.ntmps44
  go_wp2
  have hsz : (Lib.bytesWorld w 5 s).heap.size = w.heap.size + 1 := Lib.bytesWorld_size w 5 s
  have P1 : Below (Lib.bytesWorld w 5 s).heap.size (Lib.bytesWorld w 5 s) ((Lib.bytesWorld w 5 s).alloc (.cells #[.slice (some ⟨w.heap.size, 0, none⟩) s.size (grownCap w s.size 0 5), .bool false] 130)) := by go_grown
  go_ret
  refine ⟨(Lib.bytesWorld w 5 s).heap.size, rfl, by omega, ⟨some ⟨w.heap.size, 0, none⟩, s.size, grownCap w s.size 0 5, heap_alloc_new _ _, rdU_below (rdU_of (by omega) hrd (fun ad e => ⟨_, (Option.some.inj e).symm⟩)) P1, grownCap_ge w s.size 0 5, (grownCap_le_maxLen w s.size 0 5 (by simp only [maxLen]; omega)), (fun h => by cases h), (fun ad e => by cases e; show w.heap.size < _; omega)⟩, hB0.trans (P1.mono (by omega))⟩
end Go.Proofs.Ytegkclehijdbiaa.CH
