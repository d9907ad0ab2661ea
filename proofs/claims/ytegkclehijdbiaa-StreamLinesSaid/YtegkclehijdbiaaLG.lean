import Derived.Test.YtegkclehijdbiaaLC
import Derived.Test.YtegkclehijdbiaaLD
import Derived.Deep.DeepCutAuto
set_option linter.unusedSimpArgs false
set_option linter.unusedVariables false
namespace Go.Proofs.Ytegkclehijdbiaa.LG
open Go.RowKit Go.Proofs.YtegkclehijdbiaaW.PrintWords Go.Proofs.Ytegkclehijdbiaa.V1 Go.Proofs.Ytegkclehijdbiaa.V2 Go.Proofs.Ytegkclehijdbiaa.V3 Go.Proofs.Ytegkclehijdbiaa.V8 Go.Proofs.Ytegkclehijdbiaa.VD Go.Proofs.Ytegkclehijdbiaa.CN Go.Proofs.Ytegkclehijdbiaa.RD Go.Proofs.Ytegkclehijdbiaa.LB Go.Proofs.Ytegkclehijdbiaa.LC Go.Proofs.Ytegkclehijdbiaa.LD Go.Proofs.Ytegkclehijdbiaa.W2 Go.Proofs.Ytegkclehijdbiaa.W6
open Go.Proofs.YtegkclehijdbiaaW.PrintLast hiding takeB

/-- A batch in a slot, its rows in memory that stays. -/
def InB (w : World) (p : Value × Bt) : Prop := ∃ A n c, p.1 = .slice A n c ∧ RdR w A n p.2.rows ∧ n ≤ c ∧ c ≤ 9223372036854775807 ∧ -9223372036854775808 ≤ p.2.id ∧ p.2.id ≤ 9223372036854775807
theorem rowsN_take (bs : List Bt) (k : Nat) (h : k < bs.length) : rowsN (bs.take (k + 1)) = rowsN (bs.take k) + (el bs k).rows.length := by
  have : el bs k = bs[k] := by simp [el, List.getD, h]
  unfold rowsN
  rw [List.take_succ_eq_append_getElem h, List.map_append, List.sum_append, this]
  simp
theorem contains_take (ids : List Int) (x : Int) (j : Nat) (h : j < ids.length) : (ids.take (j + 1)).contains x = ((ids.take j).contains x || (el ids j == x)) := by
  rw [List.take_succ_eq_append_getElem h]
  have : el ids j = ids[j] := by simp [el, List.getD, h]
  rw [this]
  have e : (ids[j] == x) = (x == ids[j]) := by
    by_cases hh : ids[j] = x
    · rw [hh]
    · have h2 : ¬ x = ids[j] := fun h => hh h.symm
      rw [beq_eq_false_iff_ne.2 hh, beq_eq_false_iff_ne.2 h2]
  rw [e]
  simp only [List.contains_eq_mem, List.mem_append, List.mem_singleton]
  rw [Bool.eq_iff_iff]; simp
/-- waits' first loop. -/
def WtL (w : World) (bs : List Bt) (ids : List Int) (n kq : Nat) (v7 v8 v9 : Value) (wr : World) : Prop := ∃ (k : Nat) (ac : List (Value × Bt)), v9 = .int .i64 (k : Int) ∧ k ≤ n ∧ kq = n - k ∧ v7 = .int .i64 (rowsN (bs.take k) : Int) ∧ wr.ownsRow w.heap.size 38 2 v8 ac.length (ac.flatMap cBt) ∧ (∀ p ∈ ac, InB w p) ∧ ac.map Prod.snd = (bs.take k).filter (inB ids) ∧ ac.length ≤ k ∧ Below w.heap.size w wr
/-- waits' second loop. -/
def WiL (wr : World) (ids : List Int) (id : Int) (n kq : Nat) (v10 v11 : Value) (wx : World) : Prop := ∃ (j : Nat) (q : Nat), v11 = .int .i64 (j : Int) ∧ j ≤ n ∧ kq = n - j ∧ v10 = .bool (ids.isEmpty || (ids.take j).contains id) ∧ wx = wr.drewN q
set_option maxRecDepth 20000 in
set_option maxHeartbeats 8000000 in
theorem waits57 {wB : World} (g : Nat) (nm : ByteArray) (C : Option Addr) (nc dc : Nat) (room : Int) (v : Value) (acc : List (Value × Bt)) (X : Nat → Prop) (N : Option Addr) (n d : Nat) (I : Option Addr) (ni ci : Nat) (ids : List Int) (bs : List Bt) (w : World) (h : Ln wB w g nm C nc dc room v acc X) (hbs : acc.map Prod.snd = bs) (hN : RdB w N n bs) (hlen : acc.length ≤ 1000) (hi : RdN w I ni ids) :
    Calls Try.prog 57 #[.pointer (some ⟨g, 0, none⟩), .slice N n d, .slice I ni ci] w fun e w' => e = .returned (.bool true) ∧ Below w.heap.size w w' := by
  obtain ⟨i0, hii, hzz⟩ := Option.map_eq_some_iff.1 info38
  simp only [Prod.mk.injEq] at hzz
  obtain ⟨hz0, hz1, hz2⟩ := hzz
  replace hii := Lib.hid hii
  replace hz0 := Lib.hid hz0
  replace hz1 := Lib.hid hz1
  replace hz2 := Lib.hid hz2
  have hbl : Hid (bs.length = n) := hN.1
  have hal : acc.length = bs.length := by rw [← hbs, List.length_map]
  have hn1000 : n ≤ 1000 := by have := hbl.out; omega
  have hil : Hid (ids.length = ni) := hi.1
  have hni : ni ≤ 9223372036854775807 := hi.2.1
  have hfit : Hid (∀ b ∈ bs, b.rows.length ≤ 32) := fun b hb => by
    rw [← hbs] at hb
    obtain ⟨p, hp, rfl⟩ := List.mem_map.1 hb
    exact (h.fit p hp).1
  replace h := Lib.hid h
  replace hN := Lib.hid hN
  replace hi := Lib.hid hi
  replace hbs := Lib.hid hbs
  replace hal := Lib.hid hal
  go_enter Try.func57, Try.ntmps57
  go_wp2
  go_loopg [7, 8, 9] n (fun kq v7 v8 v9 wr => WtL w bs ids n kq v7 v8 v9 wr)
  case atStart => exact ⟨0, [], rfl, by omega, by omega, by simp [rowsN], CF.own_nil _ _ _ _, (fun p hp => by cases hp), by simp, by simp, Below.refl _ _⟩
  case round =>
  obtain ⟨k, ac, rfl, hk, rfl, rfl, hown, hsl, hmp, hac, hB⟩ := hrel
  replace hown := Lib.hid hown
  replace hsl := Lib.hid hsl
  replace hmp := Lib.hid hmp
  by_cases hlt : k < n
  · obtain ⟨b, o, rfl, ⟨A1, n1, c1, z0, z1, hrr, hx1, hx2, j0, j1⟩, q2⟩ := hN.out.at_ hlt
    have z0 := pw_cell_below hB z0
    have z1 := pw_cell_below hB z1
    have q0 : (0 : Int) ≤ (k : Int) := by omega
    have q1 : (k : Int) < (n : Int) := by omega
    have hst := Lib.hid (filter_take (inB ids) bs k (by rw [hbl.out]; exact hlt))
    have hrt := Lib.hid (rowsN_take bs k (by rw [hbl.out]; exact hlt))
    have hrb : Hid (rowsN (bs.take k) ≤ 32000) := by
      have := rowsN_le (bs.take k) (fun b hb => hfit.out b (List.mem_of_mem_take hb))
      rw [List.length_take] at this
      show _ ≤ _; omega
    have hr1 : n1 ≤ 32 := by
      have hkl : k < bs.length := by rw [hbl.out]; exact hlt
      have e : el bs k = bs[k] := by simp [el, List.getD, hkl]
      have := hfit.out (el bs k) (by rw [e]; exact List.getElem_mem _)
      have := hrr.1
      omega
    have hrl := Lib.hid hrr.1
    generalize el bs k = x at *
    obtain ⟨id, rows⟩ := x
    dsimp only at z0 hrr j0 j1 hrt hrl
    replace hrr := Lib.hid hrr
    obtain ⟨rk, hrk⟩ : ∃ r, r = rowsN (bs.take k) := ⟨_, rfl⟩
    rw [← hrk] at hrt hrb ⊢
    have hrk2 : (rk : Int) ≤ 32000 := by have := hrb.out; omega
    have hn32 : (n1 : Int) ≤ 32 := by omega
    replace hrk := Lib.hid hrk
    obtain ⟨em, hem⟩ : ∃ e : Bool, e = ids.isEmpty := ⟨_, rfl⟩
    have hem0 : Hid ((ni = 0 ∧ em = true) ∨ (0 < ni ∧ em = false)) := by
      show _ ∨ _
      have := hil.out
      cases ids with
      | nil => left; exact ⟨by simpa using this.symm, hem⟩
      | cons a t => right; exact ⟨by simp at this; omega, hem⟩
    replace hem := Lib.hid hem
    go_upto_region 7 with fail
    go_cut [10] (fun t wx => t = .bool em ∧ wx = wr)
    case first =>
      go_wp2
      go_meet
      case rel =>
        refine ⟨?_, rfl⟩
        rcases hem0.out with ⟨h1, h2⟩ | ⟨h1, h2⟩
        · rw [h2, h1]; rfl
        · rw [h2]
          have : ¬ ((ni : Int) = 0) := by omega
          simp [this]
          omega
    case rest =>
    obtain ⟨rfl, rfl⟩ := hcut
    go_wp2
    go_loopg [10, 11] ni (fun kq v10 v11 wx => WiL wc ids id ni kq v10 v11 wx)
    case atStart => exact ⟨0, 0, rfl, by omega, by omega, by rw [hem.out]; simp, rfl⟩
    case round =>
    obtain ⟨j, q, rfl, hjn, rfl, rfl, rfl⟩ := hrel
    have PD : Below wc.heap.size wc (wc.drewN q) := pw_below_drewN (Below.refl _ _) q
    by_cases hjl : j < ni
    · have hct := Lib.hid (contains_take ids id j (by rw [hil.out]; exact hjl))
      have hef : ids.isEmpty = false := by
        have := hil.out
        cases ids with
        | nil => simp at this; omega
        | cons a t => rfl
      have p0 : (0 : Int) ≤ (j : Int) := by omega
      have p1 : (j : Int) < (ni : Int) := by omega
      rw [hef, Bool.false_or]
      replace hef := Lib.hid hef
      cases hin : (ids.take j).contains id with
      | true =>
        replace hin := Lib.hid hin
        go_upto_region 11 with fail
        refine start_ (n := 14) (S := fun w' => True) (ds := []) #[false, false, false, false, false, false, false, false, false, false, false, false, false, false] (by kernel_rfl) rfl rfl trivial (fun hHeld => ?_)
        refine pure_ (i := 0) (N := some 39) (v := ?_) (a' := ?_) #[true, false, false, false, false, false, false, false, false, false, false, false, false, false] rfl rfl (by kernel_rfl) (fun _ _ _ h => h) (Or.inl ⟨by rfl, ?_⟩) ?_ ?_
        rotate_left
        · intro w'
          go_simp
          with_reducible rfl
        rotate_left
        · simp only [Act.put, List.setIfInBounds_toArray, List.set_cons_zero, List.set_cons_succ, i64_w, i32_w]
          rfl
        refine pure_ (i := 1) (N := some 40) (v := ?_) (a' := ?_) #[true, true, false, false, false, false, false, false, false, false, false, false, false, false] rfl rfl (by kernel_rfl) (fun _ _ _ h => h) (Or.inl ⟨by rfl, ?_⟩) ?_ ?_
        rotate_left
        · intro w'
          go_simp
          with_reducible rfl
        rotate_left
        · simp only [Act.put, List.setIfInBounds_toArray, List.set_cons_zero, List.set_cons_succ, i64_w, i32_w]
          rfl
        refine pure_ (i := 2) (N := some 41) (v := undef) (a' := ?_) #[true, true, true, false, false, false, false, false, false, false, false, false, false, false] rfl rfl (by kernel_rfl) (fun _ _ _ h => h) (Or.inr ⟨by rfl, rfl⟩) ?_ ?_
        rotate_left
        · simp only [Act.put, List.setIfInBounds_toArray, List.set_cons_zero, List.set_cons_succ, i64_w, i32_w]
          rfl
        refine pure_ (i := 3) (N := some 42) (v := undef) (a' := ?_) #[true, true, true, true, false, false, false, false, false, false, false, false, false, false] rfl rfl (by kernel_rfl) (fun _ _ _ h => h) (Or.inr ⟨by rfl, rfl⟩) ?_ ?_
        rotate_left
        · simp only [Act.put, List.setIfInBounds_toArray, List.set_cons_zero, List.set_cons_succ, i64_w, i32_w]
          rfl
        refine pure_ (i := 4) (N := some 43) (v := undef) (a' := ?_) #[true, true, true, true, true, false, false, false, false, false, false, false, false, false] rfl rfl (by kernel_rfl) (fun _ _ _ h => h) (Or.inr ⟨by rfl, rfl⟩) ?_ ?_
        rotate_left
        · simp only [Act.put, List.setIfInBounds_toArray, List.set_cons_zero, List.set_cons_succ, i64_w, i32_w]
          rfl
        refine pure_ (i := 5) (N := some 44) (v := undef) (a' := ?_) #[true, true, true, true, true, true, false, false, false, false, false, false, false, false] rfl rfl (by kernel_rfl) (fun _ _ _ h => h) (Or.inr ⟨by rfl, rfl⟩) ?_ ?_
        rotate_left
        · simp only [Act.put, List.setIfInBounds_toArray, List.set_cons_zero, List.set_cons_succ, i64_w, i32_w]
          rfl
        refine pure_ (i := 6) (N := some 45) (v := undef) (a' := ?_) #[true, true, true, true, true, true, true, false, false, false, false, false, false, false] rfl rfl (by kernel_rfl) (fun _ _ _ h => h) (Or.inr ⟨by rfl, rfl⟩) ?_ ?_
        rotate_left
        · simp only [Act.put, List.setIfInBounds_toArray, List.set_cons_zero, List.set_cons_succ, i64_w, i32_w]
          rfl
        refine pure_ (i := 7) (N := some 46) (v := undef) (a' := ?_) #[true, true, true, true, true, true, true, true, false, false, false, false, false, false] rfl rfl (by kernel_rfl) (fun _ _ _ h => h) (Or.inr ⟨by rfl, rfl⟩) ?_ ?_
        rotate_left
        · simp only [Act.put, List.setIfInBounds_toArray, List.set_cons_zero, List.set_cons_succ, i64_w, i32_w]
          rfl
        refine pure_ (i := 8) (N := some 47) (v := undef) (a' := ?_) #[true, true, true, true, true, true, true, true, true, false, false, false, false, false] rfl rfl (by kernel_rfl) (fun _ _ _ h => h) (Or.inr ⟨by rfl, rfl⟩) ?_ ?_
        rotate_left
        · simp only [Act.put, List.setIfInBounds_toArray, List.set_cons_zero, List.set_cons_succ, i64_w, i32_w]
          rfl
        refine pure_ (i := 9) (N := some 48) (v := undef) (a' := ?_) #[true, true, true, true, true, true, true, true, true, true, false, false, false, false] rfl rfl (by kernel_rfl) (fun _ _ _ h => h) (Or.inr ⟨by rfl, rfl⟩) ?_ ?_
        rotate_left
        · simp only [Act.put, List.setIfInBounds_toArray, List.set_cons_zero, List.set_cons_succ, i64_w, i32_w]
          rfl
        refine pure_ (i := 10) (N := some 49) (v := undef) (a' := ?_) #[true, true, true, true, true, true, true, true, true, true, true, false, false, false] rfl rfl (by kernel_rfl) (fun _ _ _ h => h) (Or.inr ⟨by rfl, rfl⟩) ?_ ?_
        rotate_left
        · simp only [Act.put, List.setIfInBounds_toArray, List.set_cons_zero, List.set_cons_succ, i64_w, i32_w]
          rfl
        refine pure_ (i := 11) (N := some 50) (v := undef) (a' := ?_) #[true, true, true, true, true, true, true, true, true, true, true, true, false, false] rfl rfl (by kernel_rfl) (fun _ _ _ h => h) (Or.inr ⟨by rfl, rfl⟩) ?_ ?_
        rotate_left
        · simp only [Act.put, List.setIfInBounds_toArray, List.set_cons_zero, List.set_cons_succ, i64_w, i32_w]
          rfl
        refine pure_ (i := 12) (N := some 51) (v := ?_) (a' := ?_) #[true, true, true, true, true, true, true, true, true, true, true, true, true, false] rfl rfl (by kernel_rfl) (fun _ _ _ h => h) (Or.inl ⟨by rfl, ?_⟩) ?_ ?_
        rotate_left
        · intro w'
          go_simp
          with_reducible rfl
        rotate_left
        · simp only [Act.put, List.setIfInBounds_toArray, List.set_cons_zero, List.set_cons_succ, i64_w, i32_w]
          rfl
        refine pure_ (i := 13) (N := some 10) (v := ?_) (a' := ?_) #[true, true, true, true, true, true, true, true, true, true, true, true, true, true] rfl rfl (by kernel_rfl) (fun _ _ _ h => h) (Or.inl ⟨by rfl, ?_⟩) ?_ ?_
        rotate_left
        · intro w'
          go_simp
          with_reducible rfl
        rotate_left
        · simp only [Act.put, List.setIfInBounds_toArray, List.set_cons_zero, List.set_cons_succ, i64_w, i32_w]
          rfl
        refine done_ (by kernel_rfl) ?_
        go_wp2
        go_roundg (ni - (j + 1))
        case measure => omega
        case rel => exact ⟨j + 1, q + 1, by congr 1, by omega, rfl, by rw [hef.out, hct.out, hin.out]; rfl, rfl⟩
      | false =>
        replace hin := Lib.hid hin
        obtain ⟨bi, oi, rfl, ⟨c0, y0, y1⟩, p2⟩ := (rdN_below hi.out (hB.trans (PD.mono hB.size))).at_ hjl
        rw [Nat.mul_one] at c0 p2
        have z0 := pw_cell_below PD z0
        obtain ⟨y, hy⟩ : ∃ y, y = el ids j := ⟨_, rfl⟩
        rw [← hy] at c0 hct
        replace hy := Lib.hid hy
        clear y0 y1
        go_upto_region 11 with fail
        refine start_ (n := 14) (S := fun w' => w'.cell? ⟨bi, oi + j, none⟩ = some (.int .i64 y) ∧ w'.cell? ⟨b, o + k * 2, none⟩ = some (.int .i64 id)) (ds := []) #[false, false, false, false, false, false, false, false, false, false, false, false, false, false] (by kernel_rfl) rfl rfl ⟨c0, z0⟩ (fun hHeld => ?_)
        refine pure_ (i := 0) (N := some 39) (v := ?_) (a' := ?_) #[true, false, false, false, false, false, false, false, false, false, false, false, false, false] rfl rfl (by kernel_rfl) (fun _ _ _ h => h) (Or.inl ⟨by rfl, ?_⟩) ?_ ?_
        rotate_left
        · intro w'
          go_simp
          with_reducible rfl
        rotate_left
        · simp only [Act.put, List.setIfInBounds_toArray, List.set_cons_zero, List.set_cons_succ, i64_w, i32_w]
          rfl
        refine pure_ (i := 1) (N := some 40) (v := ?_) (a' := ?_) #[true, true, false, false, false, false, false, false, false, false, false, false, false, false] rfl rfl (by kernel_rfl) (fun _ _ _ h => h) (Or.inl ⟨by rfl, ?_⟩) ?_ ?_
        rotate_left
        · intro w'
          go_simp
          with_reducible rfl
        rotate_left
        · simp only [Act.put, List.setIfInBounds_toArray, List.set_cons_zero, List.set_cons_succ, i64_w, i32_w]
          rfl
        refine pure_ (i := 2) (N := some 41) (v := ?_) (a' := ?_) #[true, true, true, false, false, false, false, false, false, false, false, false, false, false] rfl rfl (by kernel_rfl) (fun _ _ _ h => h) (Or.inl ⟨by rfl, ?_⟩) ?_ ?_
        rotate_left
        · intro w'
          go_simp
          with_reducible rfl
        rotate_left
        · simp only [Act.put, List.setIfInBounds_toArray, List.set_cons_zero, List.set_cons_succ, i64_w, i32_w]
          rfl
        refine pure_ (i := 3) (N := some 42) (v := ?_) (a' := ?_) #[true, true, true, true, false, false, false, false, false, false, false, false, false, false] rfl rfl (by kernel_rfl) (fun _ _ _ h => h) (Or.inl ⟨by rfl, ?_⟩) ?_ ?_
        rotate_left
        · intro w'
          go_simp
          with_reducible rfl
        rotate_left
        · simp only [Act.put, List.setIfInBounds_toArray, List.set_cons_zero, List.set_cons_succ, i64_w, i32_w]
          rfl
        refine pure_ (i := 4) (N := some 43) (v := ?_) (a' := ?_) #[true, true, true, true, true, false, false, false, false, false, false, false, false, false] rfl rfl (by kernel_rfl) (fun _ _ _ h => h) (Or.inl ⟨by rfl, ?_⟩) ?_ ?_
        rotate_left
        · intro w'
          go_simp
          with_reducible rfl
        rotate_left
        · simp only [Act.put, List.setIfInBounds_toArray, List.set_cons_zero, List.set_cons_succ, i64_w, i32_w]
          rfl
        refine pure_ (i := 6) (N := some 45) (v := ?_) (a' := ?_) #[true, true, true, true, true, false, true, false, false, false, false, false, false, false] rfl rfl (by kernel_rfl) (fun _ _ _ h => h) (Or.inl ⟨by rfl, ?_⟩) ?_ ?_
        rotate_left
        · intro w'
          go_simp
          with_reducible rfl
        rotate_left
        · simp only [Act.put, List.setIfInBounds_toArray, List.set_cons_zero, List.set_cons_succ, i64_w, i32_w]
          rfl
        refine pure_ (i := 7) (N := some 46) (v := ?_) (a' := ?_) #[true, true, true, true, true, false, true, true, false, false, false, false, false, false] rfl rfl (by kernel_rfl) (fun _ _ _ h => h) (Or.inl ⟨by rfl, ?_⟩) ?_ ?_
        rotate_left
        · intro w'
          go_simp
          with_reducible rfl
        rotate_left
        · simp only [Act.put, List.setIfInBounds_toArray, List.set_cons_zero, List.set_cons_succ, i64_w, i32_w]
          rfl
        refine pure_ (i := 8) (N := some 47) (v := ?_) (a' := ?_) #[true, true, true, true, true, false, true, true, true, false, false, false, false, false] rfl rfl (by kernel_rfl) (fun _ _ _ h => h) (Or.inl ⟨by rfl, ?_⟩) ?_ ?_
        rotate_left
        · intro w'
          go_simp
          with_reducible rfl
        rotate_left
        · simp only [Act.put, List.setIfInBounds_toArray, List.set_cons_zero, List.set_cons_succ, i64_w, i32_w]
          rfl
        refine pure_ (i := 9) (N := some 48) (v := ?_) (a' := ?_) #[true, true, true, true, true, false, true, true, true, true, false, false, false, false] rfl rfl (by kernel_rfl) (fun _ _ _ h => h) (Or.inl ⟨by rfl, ?_⟩) ?_ ?_
        rotate_left
        · intro w'
          go_simp
          with_reducible rfl
        rotate_left
        · simp only [Act.put, List.setIfInBounds_toArray, List.set_cons_zero, List.set_cons_succ, i64_w, i32_w]
          rfl
        refine take_ (i := 5) (N := some 44) (v := ?_) (a' := ?_) #[true, true, true, true, true, true, true, true, true, true, false, false, false, false] rfl rfl (by kernel_rfl) (fun _ _ _ h => h) (Or.inl ⟨by rfl, ?_⟩) hHeld ?_ ?_
        rotate_left
        · rintro w' ⟨s0, s1⟩
          go_simp
          with_reducible rfl
        rotate_left
        · simp only [Act.put, List.setIfInBounds_toArray, List.set_cons_zero, List.set_cons_succ, i64_w, i32_w]
          rfl
        refine take_ (i := 10) (N := some 49) (v := ?_) (a' := ?_) #[true, true, true, true, true, true, true, true, true, true, true, false, false, false] rfl rfl (by kernel_rfl) (fun _ _ _ h => h) (Or.inl ⟨by rfl, ?_⟩) hHeld ?_ ?_
        rotate_left
        · rintro w' ⟨s0, s1⟩
          go_simp
          with_reducible rfl
        rotate_left
        · simp only [Act.put, List.setIfInBounds_toArray, List.set_cons_zero, List.set_cons_succ, i64_w, i32_w]
          rfl
        refine pure_ (i := 11) (N := some 50) (v := ?_) (a' := ?_) #[true, true, true, true, true, true, true, true, true, true, true, true, false, false] rfl rfl (by kernel_rfl) (fun _ _ _ h => h) (Or.inl ⟨by rfl, ?_⟩) ?_ ?_
        rotate_left
        · intro w'
          go_simp
          with_reducible rfl
        rotate_left
        · simp only [Act.put, List.setIfInBounds_toArray, List.set_cons_zero, List.set_cons_succ, i64_w, i32_w]
          rfl
        refine pure_ (i := 12) (N := some 51) (v := ?_) (a' := ?_) #[true, true, true, true, true, true, true, true, true, true, true, true, true, false] rfl rfl (by kernel_rfl) (fun _ _ _ h => h) (Or.inl ⟨by rfl, ?_⟩) ?_ ?_
        rotate_left
        · intro w'
          go_simp
          with_reducible rfl
        rotate_left
        · simp only [Act.put, List.setIfInBounds_toArray, List.set_cons_zero, List.set_cons_succ, i64_w, i32_w]
          rfl
        refine pure_ (i := 13) (N := some 10) (v := ?_) (a' := ?_) #[true, true, true, true, true, true, true, true, true, true, true, true, true, true] rfl rfl (by kernel_rfl) (fun _ _ _ h => h) (Or.inl ⟨by rfl, ?_⟩) ?_ ?_
        rotate_left
        · intro w'
          go_simp
          with_reducible rfl
        rotate_left
        · simp only [Act.put, List.setIfInBounds_toArray, List.set_cons_zero, List.set_cons_succ, i64_w, i32_w]
          rfl
        refine done_ (by kernel_rfl) ?_
        go_wp2
        go_roundg (ni - (j + 1))
        case measure => omega
        case rel => exact ⟨j + 1, q + 1, by congr 1, by omega, rfl, by rw [hef.out, hct.out, hin.out]; rfl, rfl⟩
    obtain rfl : j = ni := by omega
    rw [List.take_of_length_le (by rw [hil.out]; exact Nat.le_refl _)]
    rw [show (ids.isEmpty || ids.contains id) = inB ids ⟨id, rows⟩ from rfl]
    have z0 := pw_cell_below PD z0
    have z1 := pw_cell_below PD z1
    have hBD := hB.trans (PD.mono hB.size)
    have hownD : Hid ((wc.drewN q).ownsRow w.heap.size 38 2 u8 ac.length (ac.flatMap cBt)) := LA.own_move hown.out (fun k hk => PD.block k (own_lt hown.out k hk))
    have hsum : Hid ((rk : Int) + (n1 : Int) = (rowsN (bs.take (k + 1)) : Int)) := by have := hrt.out; have := hrl.out; show _ = _; omega
    clear PD hown hjn
    generalize wc.drewN q = Y at *
    cases hb : inB ids ⟨id, rows⟩ with
    | false =>
      have hst2 : Hid ((bs.take (k + 1)).filter (inB ids) = (bs.take k).filter (inB ids)) := by show _ = _; rw [hst.out, hb]; simp
      clear z0 z1
      go_wp2
      go_roundg (n - (k + 1))
      case measure => omega
      case rel => exact ⟨k + 1, ac, by congr 1, by omega, rfl, by rw [← hsum.out], hownD.out, hsl.out, by rw [hmp.out, hst2.out], by omega, hBD⟩
    | true =>
      have hst2 : Hid ((bs.take (k + 1)).filter (inB ids) = (bs.take k).filter (inB ids) ++ [⟨id, rows⟩]) := by show _ = _; rw [hst.out, hb]; simp
      have P2 : Below Y.heap.size Y (Y.alloc (.cells #[.int .i64 id, .slice A1 n1 c1] 38)) := by go_grown
      have hown2 : Hid ((Y.alloc (.cells #[.int .i64 id, .slice A1 n1 c1] 38)).ownsRow w.heap.size 38 2 u8 ac.length (ac.flatMap cBt)) := LA.own_move hownD.out (fun k hk => P2.block k (own_lt hownD.out k hk))
      have e2 : (Y.alloc (.cells #[.int .i64 id, .slice A1 n1 c1] 38)).heap[Y.heap.size]? = some (.cells #[.int .i64 id, .slice A1 n1 c1] 38 (0, 0)) := heap_alloc_new Y _
      have hnews : Hid (∀ j u, (cBt (.slice A1 n1 c1, ⟨id, rows⟩))[j]? = some u → (Y.alloc (.cells #[.int .i64 id, .slice A1 n1 c1] 38)).cell? ((⟨Y.heap.size, 0, none⟩ : Addr).add j) = some u) := by
        intro j u hu
        rw [add_plain, blk_cell e2]
        simpa [cBt] using hu
      clear e2
      have hbs2 : w.heap.size ≤ (Y.alloc (.cells #[.int .i64 id, .slice A1 n1 c1] 38)).heap.size := Nat.le_trans hBD.size P2.size
      go_wp2_with (at_builtin; refine wpList_append_own_at (Y.alloc (.cells #[.int .i64 id, .slice A1 n1 c1] 38)) rfl (.tmp 53) (.tmp 58) 25 rfl w.heap.size 38 i0 (.agg #[.int .i64 0, .slice none 0 0]) 2 32 Try.underlying25 hii.out hz0.out hz1.out hz2.out rfl (by omega) u8 ac.length (ac.flatMap cBt) rfl hown2.out ⟨Y.heap.size, 0, none⟩ 1 1 (cBt (.slice A1 n1 c1, ⟨id, rows⟩)) rfl rfl hnews.out (by intro u hu; simp only [cBt, List.mem_cons, List.not_mem_nil, or_false] at hu; rcases hu with rfl | rfl <;> rfl) (by simp only [maxLen]; omega) (by omega) hbs2 ?_; intro v1 w1 hown1 hg1 _ hob)
      have hBf : Below w.heap.size w w1 := (hBD.trans (P2.mono hBD.size)).grown hg1 hbs2 (fun q e => own_base hown2.out q e)
      replace hown1 := Lib.hid hown1
      go_roundg (n - (k + 1))
      case measure => omega
      case rel =>
        refine ⟨k + 1, ac ++ [(.slice A1 n1 c1, ⟨id, rows⟩)], by congr 1, by omega, rfl, by rw [← hsum.out], by simpa using hown1.out, fun p hp => ?_, by rw [List.map_append, hmp.out, hst2.out]; rfl, by simp only [List.length_append, List.length_cons, List.length_nil]; omega, hBf⟩
        rcases List.mem_append.1 hp with hp | hp
        · exact hsl.out p hp
        · obtain rfl := List.mem_singleton.1 hp
          exact ⟨A1, n1, c1, rfl, hrr.out, hx1, hx2, j0, j1⟩
  obtain rfl : k = n := by omega
  rw [List.take_of_length_le (show bs.length ≤ k by rw [hbl.out]; exact Nat.le_refl _)] at hmp ⊢
  obtain ⟨A8, c8, rfl, hsome, hs81, hs82⟩ := q_rd (w := wr) (q_of_own hown.out) (fun p hp => by
    obtain ⟨A, n, c, e1, h1, h2⟩ := hsl.out p hp
    exact ⟨A, n, c, e1, rdR_below h1 hB, h2⟩)
  have hfl : Hid (ac.length = ((bs).filter (inB ids)).length) := by show _ = _; rw [← hmp.out, List.length_map]
  rw [hmp.out] at hsome
  replace hsome := Lib.hid hsome
  have hLr := h.out.below hB
  have hNr := Lib.hid (rdB_below hN.out hB)
  have hBa := LC.batches60 g nm C nc dc room v acc X none 0 0 [] wr hLr (by have := hal.out; have := hbl.out; omega) ⟨rfl, by omega, fun h => absurd h (by omega)⟩
  rw [show (acc.map Prod.snd).filter (inB []) = bs by rw [hbs.out]; exact List.filter_eq_self.2 (fun _ _ => rfl)] at hBa
  replace hBa := Lib.hid hBa
  replace hLr := Lib.hid hLr
  clear hown hsl hlt hk
  go_wp2_with fail
  (with_reducible refine hBa.out.mono ?_)
  rintro e W1 ⟨AA, na, ca, rfl, hall, ha1, ha2, hB1⟩
  clear hBa
  have hL1 := hLr.out.below hB1
  have hBp := LC.batches60 g nm C nc dc room v acc X I ni ci ids W1 hL1 (by have := hal.out; have := hbl.out; omega) (rdN_below hi.out (hB.trans (hB1.mono hB.size)))
  rw [hbs.out] at hBp
  replace hBp := Lib.hid hBp
  replace hL1 := Lib.hid hL1
  go_wp2_with fail
  (with_reducible refine hBp.out.mono ?_)
  rintro e W2 ⟨AP, np, cp, rfl, hpart, hp1, hp2, hB2⟩
  clear hBp
  obtain rfl : k = na := by rw [← hbl.out]; exact hall.1
  have hnp : ac.length = np := by rw [hfl.out]; exact hpart.1
  have hL2 := hL1.out.below hB2
  have hlen2 := len58 g nm C nc dc room v acc X W2 hL2
  rw [show ((acc.length : Nat) : Int) = (k : Int) by rw [hal.out, hbl.out]] at hlen2
  have hrow2 := rows59 g nm C nc dc room v acc X W2 hL2
  rw [hbs.out] at hrow2
  generalize rowsN bs = rb at *
  replace hlen2 := Lib.hid hlen2
  replace hrow2 := Lib.hid hrow2
  subst hnp
  have hall2 := Lib.hid (rdB_below hall hB2)
  have hN2 := Lib.hid (rdB_below hNr.out (hB1.trans (hB2.mono hB1.size)))
  have hsome2 := Lib.hid (rdB_below hsome.out (hB1.trans (hB2.mono hB1.size)))
  have hBW := Lib.hid (hB.trans ((hB1.trans (hB2.mono hB1.size)).mono hB.size))
  replace hpart := Lib.hid hpart
  clear hall hB1 hB2 hL2 hNr hsome hB
  go_wp2_with fail
  (with_reducible refine hlen2.out.mono ?_)
  rintro e W ⟨rfl, rfl⟩
  go_wp2_with fail
  (with_reducible refine hrow2.out.mono ?_)
  rintro e W ⟨rfl, rfl⟩
  clear hlen2 hrow2
  go_wp2
  go_loopg [14] k (fun kq i wr => ∃ j : Nat, i = .int .i64 (j : Int) ∧ j ≤ k ∧ kq = k - j ∧ Below W2.heap.size W2 wr)
  case atStart => exact ⟨0, rfl, by omega, by omega, Below.refl _ _⟩
  case round =>
  obtain ⟨j, rfl, hk, rfl, hwj⟩ := hrel
  by_cases hlt : j < k
  · obtain ⟨bg, og, rfl, ⟨A1, n1, c1, y0, y1, hrr1, _, _, _, _⟩, q2⟩ := (rdB_below hall2.out hwj).at_ hlt
    obtain ⟨bl, ol, rfl, ⟨A2, n2, c2, z0, z1, hrr2, _, _, _, _⟩, p2⟩ := (rdB_below hN2.out hwj).at_ hlt
    have q0 : (0 : Int) ≤ (j : Int) := by omega
    have q1 : (j : Int) < (k : Int) := by omega
    have hSm := Lib.hid (fun W hW => VF.same24 (el bs j).id (el bs j).id A1 A2 n1 c1 n2 c2 (el bs j).rows (el bs j).rows W (rdR_below hrr1 hW) (rdR_below hrr2 hW))
    clear hrr1 hrr2
    generalize el bs j = x at *
    obtain ⟨id, rows⟩ := x
    dsimp only at *
    simp only [VF.sameB_refl] at hSm
    go_upto_region 20 with fail
    refine start_ (n := 10) (S := fun w' => w'.cell? ⟨bg, og + j * 2, none⟩ = some (.int .i64 id) ∧ w'.cell? ⟨bg, og + j * 2 + 1, none⟩ = some (.slice A1 n1 c1) ∧ w'.cell? ⟨bl, ol + j * 2, none⟩ = some (.int .i64 id) ∧ w'.cell? ⟨bl, ol + j * 2 + 1, none⟩ = some (.slice A2 n2 c2)) (ds := []) #[false, false, false, false, false, false, false, false, false, false] (by kernel_rfl) rfl rfl ⟨y0, y1, z0, z1⟩ (fun hHeld => ?_)
    refine pure_ (i := 0) (N := some 96) (v := ?_) (a' := ?_) #[true, false, false, false, false, false, false, false, false, false] rfl rfl (by kernel_rfl) (fun _ _ _ h => h) (Or.inl ⟨by rfl, ?_⟩) ?_ ?_
    rotate_left
    · intro w'
      go_simp
      with_reducible rfl
    rotate_left
    · simp only [Act.put, List.setIfInBounds_toArray, List.set_cons_zero, List.set_cons_succ, i64_w, i32_w]
      rfl
    refine pure_ (i := 1) (N := some 97) (v := ?_) (a' := ?_) #[true, true, false, false, false, false, false, false, false, false] rfl rfl (by kernel_rfl) (fun _ _ _ h => h) (Or.inl ⟨by rfl, ?_⟩) ?_ ?_
    rotate_left
    · intro w'
      go_simp
      with_reducible rfl
    rotate_left
    · simp only [Act.put, List.setIfInBounds_toArray, List.set_cons_zero, List.set_cons_succ, i64_w, i32_w]
      rfl
    refine pure_ (i := 2) (N := some 98) (v := ?_) (a' := ?_) #[true, true, true, false, false, false, false, false, false, false] rfl rfl (by kernel_rfl) (fun _ _ _ h => h) (Or.inl ⟨by rfl, ?_⟩) ?_ ?_
    rotate_left
    · intro w'
      go_simp
      with_reducible rfl
    rotate_left
    · simp only [Act.put, List.setIfInBounds_toArray, List.set_cons_zero, List.set_cons_succ, i64_w, i32_w]
      rfl
    refine pure_ (i := 4) (N := some 100) (v := ?_) (a' := ?_) #[true, true, true, false, true, false, false, false, false, false] rfl rfl (by kernel_rfl) (fun _ _ _ h => h) (Or.inl ⟨by rfl, ?_⟩) ?_ ?_
    rotate_left
    · intro w'
      go_simp
      with_reducible rfl
    rotate_left
    · simp only [Act.put, List.setIfInBounds_toArray, List.set_cons_zero, List.set_cons_succ, i64_w, i32_w]
      rfl
    refine pure_ (i := 5) (N := some 101) (v := ?_) (a' := ?_) #[true, true, true, false, true, true, false, false, false, false] rfl rfl (by kernel_rfl) (fun _ _ _ h => h) (Or.inl ⟨by rfl, ?_⟩) ?_ ?_
    rotate_left
    · intro w'
      go_simp
      with_reducible rfl
    rotate_left
    · simp only [Act.put, List.setIfInBounds_toArray, List.set_cons_zero, List.set_cons_succ, i64_w, i32_w]
      rfl
    refine pure_ (i := 6) (N := some 102) (v := ?_) (a' := ?_) #[true, true, true, false, true, true, true, false, false, false] rfl rfl (by kernel_rfl) (fun _ _ _ h => h) (Or.inl ⟨by rfl, ?_⟩) ?_ ?_
    rotate_left
    · intro w'
      go_simp
      with_reducible rfl
    rotate_left
    · simp only [Act.put, List.setIfInBounds_toArray, List.set_cons_zero, List.set_cons_succ, i64_w, i32_w]
      rfl
    refine take_ (i := 3) (N := some 99) (v := ?_) (a' := ?_) #[true, true, true, true, true, true, true, false, false, false] rfl rfl (by kernel_rfl) (fun _ _ _ h => h) (Or.inl ⟨by rfl, ?_⟩) hHeld ?_ ?_
    rotate_left
    · rintro w' ⟨s0, s1, s2, s3⟩
      go_simp
      with_reducible rfl
    rotate_left
    · simp only [Act.put, List.setIfInBounds_toArray, List.set_cons_zero, List.set_cons_succ, i64_w, i32_w]
      rfl
    refine take_ (i := 7) (N := some 103) (v := ?_) (a' := ?_) #[true, true, true, true, true, true, true, true, false, false] rfl rfl (by kernel_rfl) (fun _ _ _ h => h) (Or.inl ⟨by rfl, ?_⟩) hHeld ?_ ?_
    rotate_left
    · rintro w' ⟨s0, s1, s2, s3⟩
      go_simp
      with_reducible rfl
    rotate_left
    · simp only [Act.put, List.setIfInBounds_toArray, List.set_cons_zero, List.set_cons_succ, i64_w, i32_w]
      rfl
    refine one_ (i := 8) (N := some 104) #[true, true, true, true, true, true, true, true, true, false] rfl rfl (by kernel_rfl) (by decide) (fun K hK => ?_)
    refine goes_ Try.func24 (by kernel_rfl) rfl #[.agg #[.int .i64 id, .slice A1 n1 c1], .agg #[.int .i64 id, .slice A2 n2 c2]] (by rfl) rfl rfl (by simp only [List.map_toArray, List.map_cons, List.map_nil]; rfl) ?_
    with_reducible refine (hSm.out _ ((Below.refl wr.heap.size wr).drew)).mono ?_
    rintro e U ⟨rfl, hBU⟩
    refine ⟨_, rfl, ?_⟩
    refine hK.out _ _ ⟨(pw_cell_below hBU y0), (pw_cell_below hBU y1), (pw_cell_below hBU z0), (pw_cell_below hBU z1)⟩ (fun hHeld => ?_)
    clear hK K
    refine norm_ (a' := ?_) ?_ ?_
    rotate_left
    · show Act.put _ (some 104) _ = _
      simp only [Act.put, List.setIfInBounds_toArray, List.set_cons_zero, List.set_cons_succ, i64_w, i32_w]
      rfl
    refine pure_ (i := 9) (N := some 105) (v := ?_) (a' := ?_) #[true, true, true, true, true, true, true, true, true, true] rfl rfl (by kernel_rfl) (fun _ _ _ h => h) (Or.inl ⟨by rfl, ?_⟩) ?_ ?_
    rotate_left
    · intro w'
      go_simp
      with_reducible rfl
    rotate_left
    · simp only [Act.put, List.setIfInBounds_toArray, List.set_cons_zero, List.set_cons_succ, i64_w, i32_w]
      rfl
    refine done_ (by kernel_rfl) ?_
    have hX : Below wr.heap.size wr U := (Below.refl wr.heap.size wr).drew.trans hBU
    clear hHeld hSm y0 y1 z0 z1
    go_wp2
    go_roundg (k - (j + 1))
    case measure => omega
    case rel => exact ⟨j + 1, by congr 1, by omega, rfl, hwj.trans (hX.mono hwj.size)⟩
  obtain rfl : j = k := by omega
  have hp3 := Lib.hid (rdB_below hpart.out hwj)
  have hs3 := Lib.hid (rdB_below hsome2.out hwj)
  have hBW3 := Lib.hid (hBW.out.trans (hwj.mono hBW.out.size))
  clear hk hlt
  generalize bs.filter (inB ids) = fs at *
  generalize ac.length = np at *
  generalize hwr3 : wr = W3 at *
  clear hwr3
  go_wp2
  go_loopg [15] np (fun kq i wr => ∃ j : Nat, i = .int .i64 (j : Int) ∧ j ≤ np ∧ kq = np - j ∧ Below W3.heap.size W3 wr)
  case atStart => exact ⟨0, rfl, by omega, by omega, Below.refl _ _⟩
  case round =>
  obtain ⟨j, rfl, hk, rfl, hwj⟩ := hrel
  by_cases hlt : j < np
  · obtain ⟨bg, og, rfl, ⟨A1, n1, c1, y0, y1, hrr1, _, _, _, _⟩, q2⟩ := (rdB_below hp3.out hwj).at_ hlt
    obtain ⟨bl, ol, rfl, ⟨A2, n2, c2, z0, z1, hrr2, _, _, _, _⟩, p2⟩ := (rdB_below hs3.out hwj).at_ hlt
    have q0 : (0 : Int) ≤ (j : Int) := by omega
    have q1 : (j : Int) < (np : Int) := by omega
    have hSm := Lib.hid (fun W hW => VF.same24 (el fs j).id (el fs j).id A1 A2 n1 c1 n2 c2 (el fs j).rows (el fs j).rows W (rdR_below hrr1 hW) (rdR_below hrr2 hW))
    clear hrr1 hrr2
    generalize el fs j = x at *
    obtain ⟨id, rows⟩ := x
    dsimp only at *
    simp only [VF.sameB_refl] at hSm
    go_upto_region 25 with fail
    refine start_ (n := 10) (S := fun w' => w'.cell? ⟨bg, og + j * 2, none⟩ = some (.int .i64 id) ∧ w'.cell? ⟨bg, og + j * 2 + 1, none⟩ = some (.slice A1 n1 c1) ∧ w'.cell? ⟨bl, ol + j * 2, none⟩ = some (.int .i64 id) ∧ w'.cell? ⟨bl, ol + j * 2 + 1, none⟩ = some (.slice A2 n2 c2)) (ds := []) #[false, false, false, false, false, false, false, false, false, false] (by kernel_rfl) rfl rfl ⟨y0, y1, z0, z1⟩ (fun hHeld => ?_)
    refine pure_ (i := 0) (N := some 112) (v := ?_) (a' := ?_) #[true, false, false, false, false, false, false, false, false, false] rfl rfl (by kernel_rfl) (fun _ _ _ h => h) (Or.inl ⟨by rfl, ?_⟩) ?_ ?_
    rotate_left
    · intro w'
      go_simp
      with_reducible rfl
    rotate_left
    · simp only [Act.put, List.setIfInBounds_toArray, List.set_cons_zero, List.set_cons_succ, i64_w, i32_w]
      rfl
    refine pure_ (i := 1) (N := some 113) (v := ?_) (a' := ?_) #[true, true, false, false, false, false, false, false, false, false] rfl rfl (by kernel_rfl) (fun _ _ _ h => h) (Or.inl ⟨by rfl, ?_⟩) ?_ ?_
    rotate_left
    · intro w'
      go_simp
      with_reducible rfl
    rotate_left
    · simp only [Act.put, List.setIfInBounds_toArray, List.set_cons_zero, List.set_cons_succ, i64_w, i32_w]
      rfl
    refine pure_ (i := 2) (N := some 114) (v := ?_) (a' := ?_) #[true, true, true, false, false, false, false, false, false, false] rfl rfl (by kernel_rfl) (fun _ _ _ h => h) (Or.inl ⟨by rfl, ?_⟩) ?_ ?_
    rotate_left
    · intro w'
      go_simp
      with_reducible rfl
    rotate_left
    · simp only [Act.put, List.setIfInBounds_toArray, List.set_cons_zero, List.set_cons_succ, i64_w, i32_w]
      rfl
    refine pure_ (i := 4) (N := some 116) (v := ?_) (a' := ?_) #[true, true, true, false, true, false, false, false, false, false] rfl rfl (by kernel_rfl) (fun _ _ _ h => h) (Or.inl ⟨by rfl, ?_⟩) ?_ ?_
    rotate_left
    · intro w'
      go_simp
      with_reducible rfl
    rotate_left
    · simp only [Act.put, List.setIfInBounds_toArray, List.set_cons_zero, List.set_cons_succ, i64_w, i32_w]
      rfl
    refine pure_ (i := 5) (N := some 117) (v := ?_) (a' := ?_) #[true, true, true, false, true, true, false, false, false, false] rfl rfl (by kernel_rfl) (fun _ _ _ h => h) (Or.inl ⟨by rfl, ?_⟩) ?_ ?_
    rotate_left
    · intro w'
      go_simp
      with_reducible rfl
    rotate_left
    · simp only [Act.put, List.setIfInBounds_toArray, List.set_cons_zero, List.set_cons_succ, i64_w, i32_w]
      rfl
    refine pure_ (i := 6) (N := some 118) (v := ?_) (a' := ?_) #[true, true, true, false, true, true, true, false, false, false] rfl rfl (by kernel_rfl) (fun _ _ _ h => h) (Or.inl ⟨by rfl, ?_⟩) ?_ ?_
    rotate_left
    · intro w'
      go_simp
      with_reducible rfl
    rotate_left
    · simp only [Act.put, List.setIfInBounds_toArray, List.set_cons_zero, List.set_cons_succ, i64_w, i32_w]
      rfl
    refine take_ (i := 3) (N := some 115) (v := ?_) (a' := ?_) #[true, true, true, true, true, true, true, false, false, false] rfl rfl (by kernel_rfl) (fun _ _ _ h => h) (Or.inl ⟨by rfl, ?_⟩) hHeld ?_ ?_
    rotate_left
    · rintro w' ⟨s0, s1, s2, s3⟩
      go_simp
      with_reducible rfl
    rotate_left
    · simp only [Act.put, List.setIfInBounds_toArray, List.set_cons_zero, List.set_cons_succ, i64_w, i32_w]
      rfl
    refine take_ (i := 7) (N := some 119) (v := ?_) (a' := ?_) #[true, true, true, true, true, true, true, true, false, false] rfl rfl (by kernel_rfl) (fun _ _ _ h => h) (Or.inl ⟨by rfl, ?_⟩) hHeld ?_ ?_
    rotate_left
    · rintro w' ⟨s0, s1, s2, s3⟩
      go_simp
      with_reducible rfl
    rotate_left
    · simp only [Act.put, List.setIfInBounds_toArray, List.set_cons_zero, List.set_cons_succ, i64_w, i32_w]
      rfl
    refine one_ (i := 8) (N := some 120) #[true, true, true, true, true, true, true, true, true, false] rfl rfl (by kernel_rfl) (by decide) (fun K hK => ?_)
    refine goes_ Try.func24 (by kernel_rfl) rfl #[.agg #[.int .i64 id, .slice A1 n1 c1], .agg #[.int .i64 id, .slice A2 n2 c2]] (by rfl) rfl rfl (by simp only [List.map_toArray, List.map_cons, List.map_nil]; rfl) ?_
    with_reducible refine (hSm.out _ ((Below.refl wr.heap.size wr).drew)).mono ?_
    rintro e U ⟨rfl, hBU⟩
    refine ⟨_, rfl, ?_⟩
    refine hK.out _ _ ⟨(pw_cell_below hBU y0), (pw_cell_below hBU y1), (pw_cell_below hBU z0), (pw_cell_below hBU z1)⟩ (fun hHeld => ?_)
    clear hK K
    refine norm_ (a' := ?_) ?_ ?_
    rotate_left
    · show Act.put _ (some 120) _ = _
      simp only [Act.put, List.setIfInBounds_toArray, List.set_cons_zero, List.set_cons_succ, i64_w, i32_w]
      rfl
    refine pure_ (i := 9) (N := some 121) (v := ?_) (a' := ?_) #[true, true, true, true, true, true, true, true, true, true] rfl rfl (by kernel_rfl) (fun _ _ _ h => h) (Or.inl ⟨by rfl, ?_⟩) ?_ ?_
    rotate_left
    · intro w'
      go_simp
      with_reducible rfl
    rotate_left
    · simp only [Act.put, List.setIfInBounds_toArray, List.set_cons_zero, List.set_cons_succ, i64_w, i32_w]
      rfl
    refine done_ (by kernel_rfl) ?_
    have hX : Below wr.heap.size wr U := (Below.refl wr.heap.size wr).drew.trans hBU
    clear hHeld hSm y0 y1 z0 z1
    go_wp2
    go_roundg (np - (j + 1))
    case measure => omega
    case rel => exact ⟨j + 1, by congr 1, by omega, rfl, hwj.trans (hX.mono hwj.size)⟩
  obtain rfl : j = np := by omega
  go_wp2
  go_ret
  exact ⟨rfl, hBW3.out.trans (hwj.mono hBW3.out.size)⟩
end Go.Proofs.Ytegkclehijdbiaa.LG
