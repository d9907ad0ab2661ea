import Derived.Test.YtegkclehijdbiaaMP
import Derived.Test.YtegkclehijdbiaaW6
set_option linter.unusedSimpArgs false
set_option linter.unusedVariables false
namespace Go.Proofs.Ytegkclehijdbiaa.RW
open Go.RowKit Go.Proofs.Ytegkclehijdbiaa.PCodecTakes Go.Proofs.Ytegkclehijdbiaa.V1 Go.Proofs.Ytegkclehijdbiaa.V2 Go.Proofs.Ytegkclehijdbiaa.V3 Go.Proofs.Ytegkclehijdbiaa.N1 Go.Proofs.Ytegkclehijdbiaa.N2 Go.Proofs.Ytegkclehijdbiaa.N3 Go.Proofs.Ytegkclehijdbiaa.CA Go.Proofs.Ytegkclehijdbiaa.CB Go.Proofs.Ytegkclehijdbiaa.CC Go.Proofs.Ytegkclehijdbiaa.CD Go.Proofs.Ytegkclehijdbiaa.W1 Go.Proofs.Ytegkclehijdbiaa.W2 Go.Proofs.Ytegkclehijdbiaa.W3 Go.Proofs.Ytegkclehijdbiaa.W4 Go.Proofs.Ytegkclehijdbiaa.W5 Go.Proofs.Ytegkclehijdbiaa.W6 Go.Proofs.Ytegkclehijdbiaa.PE
open Go.Proofs.YtegkclehijdbiaaW.PrintLast hiding takeB
open Go.Proofs.YtegkclehijdbiaaW.PrintWords hiding Ev

/-- A string answered, the world let be. -/
def Ans (r : ByteArray) (w : World) (e : Ending) (w' : World) : Prop := e = .returned (.string r) ∧ Below w.heap.size w w'
theorem num74 (n : Nat) (hn : n < 18446744073709551616) (w : World) : Calls Try.prog 74 #[.int .u64 (n : Int)] w (Ans (S (num n)) w) := by
  obtain ⟨K, hK⟩ := num_f n hn
  exact affluxref04_Number.calls K _ _ w (hK K (Nat.le_refl _))
set_option maxHeartbeats 400000 in
theorem size28 (n : Int) (h0 : -9223372036854775808 ≤ n) (h1 : n ≤ 9223372036854775807) (w : World) : Calls Try.prog 28 #[.int .i64 n] w (Ans (S (encS n)) w) := by
  have hN := num74 n.toNat (by omega) w
  rw [show num n.toNat = encS n from rfl] at hN
  generalize S (encS n) = R at *
  by_cases h : n < 0
  · rw [show ((n.toNat : Nat) : Int) = 0 by omega] at hN
    replace hN := Lib.hid hN
    go_enter Try.func28, Try.ntmps28
    go_wp2_with fail
    (with_reducible refine hN.out.mono ?_)
    rintro e W ⟨rfl, hB⟩
    go_wp2
    go_ret
    exact ⟨rfl, hB⟩
  · rw [show ((n.toNat : Nat) : Int) = n by omega] at hN
    have hw : IntKind.u64.wrap n = n := by rw [IntKind.wrap_u64]; omega
    replace hN := Lib.hid hN
    go_enter Try.func28, Try.ntmps28
    go_wp2_with fail
    (with_reducible refine hN.out.mono ?_)
    rintro e W ⟨rfl, hB⟩
    go_wp2
    go_ret
    exact ⟨rfl, hB⟩
set_option maxHeartbeats 400000 in
theorem signed29 (n : Int) (h0 : -9223372036854775808 ≤ n) (h1 : n ≤ 9223372036854775807) (w : World) : Calls Try.prog 29 #[.int .i64 n] w (Ans (S (encI n)) w) := by
  have hN := num74 (zag n) (zag_lt h0 h1) w
  rw [show num (zag n) = encI n from rfl] at hN
  generalize S (encI n) = R at *
  by_cases h : n < 0
  · have hz : 2 * -(n + 1) + 1 = ((zag n : Nat) : Int) := by
      unfold zag; rw [if_pos h]; omega
    rw [← hz] at hN
    clear hz
    replace hN := Lib.hid hN
    go_enter Try.func29, Try.ntmps29
    go_wp2_with fail
    (with_reducible refine hN.out.mono ?_)
    rintro e W ⟨rfl, hB⟩
    go_wp2
    go_ret
    exact ⟨rfl, hB⟩
  · have hz : 2 * n = ((zag n : Nat) : Int) := by
      unfold zag; rw [if_neg h]; omega
    rw [← hz] at hN
    clear hz
    replace hN := Lib.hid hN
    go_enter Try.func29, Try.ntmps29
    go_wp2_with fail
    (with_reducible refine hN.out.mono ?_)
    rintro e W ⟨rfl, hB⟩
    go_wp2
    go_ret
    exact ⟨rfl, hB⟩
set_option maxHeartbeats 400000 in
theorem text30 (s : ByteArray) (hs : s.size ≤ 1000000) (w : World) : Calls Try.prog 30 #[.string s] w (Ans (S (encT s)) w) := by
  have hN := Lib.hid (size28 (s.size : Int) (by omega) (by omega) w)
  have hlen := encS_len (n := (s.size : Int)) (by omega) (by omega)
  have hfin : Hid (S (encS (s.size : Int)) ++ s = S (encT s)) := by
    show _ = _
    conv => lhs; rw [← S_eq s]
    rw [S_app]; unfold encT encS
    rw [S_eq]; simp
  have hsz : (S (encS (s.size : Int))).size ≤ 9 := by rw [S_size]; exact hlen
  generalize S (encT s) = Q at *
  generalize S (encS (s.size : Int)) = R at *
  have c3 : R.size + s.size ≤ 9223372036854775807 := by omega
  go_enter Try.func30, Try.ntmps30
  go_wp2_with fail
  (with_reducible refine hN.out.mono ?_)
  rintro e W ⟨rfl, hB⟩
  go_wp2
  go_ret
  exact ⟨by rw [hfin.out]; rfl, hB⟩
theorem two_u {w : World} {a b : Int} (x y : UInt8) (ha : a = (x.toNat : Int)) (hb : b = (y.toNat : Int)) (t : TypeId) : RdU (w.alloc (.cells #[.int .u8 a, .int .u8 b] t)) (some ⟨w.heap.size, 0, none⟩) 2 [x, y] := by
  have eB : (w.alloc (.cells #[.int .u8 a, .int .u8 b] t)).heap[w.heap.size]? = some (.cells #[.int .u8 a, .int .u8 b] t (0, 0)) := heap_alloc_new w _
  refine ⟨rfl, by omega, fun _ => ⟨_, 0, rfl, fun i hi => ?_⟩⟩
  rcases (show i = 0 ∨ i = 1 by omega) with rfl | rfl
  · unfold atU; rw [show el [x, y] 0 = x from rfl, ← ha]; exact (blk_cell eB 0).trans rfl
  · unfold atU; rw [show el [x, y] 1 = y from rfl, ← hb]; exact (blk_cell eB 1).trans rfl
set_option maxRecDepth 8000 in
set_option maxHeartbeats 2000000 in
theorem value31 (x : Vl) (hf : x.Fit) (hs : x.s.size ≤ 900000) (w : World) : Calls Try.prog 31 #[x.agg] w (Ans (S (encV x)) w) := by
  obtain ⟨k, n, s⟩ := x
  have hfk := hf.k0
  have hfk1 := hf.k1
  have hfn := hf.n0
  have hfn1 := hf.n1
  dsimp only at hfk hfk1 hfn hfn1 hs
  have P0 : Below w.heap.size w (w.alloc (.cells #[.int .i64 k, .int .i64 n, .string s] 56)) := by go_grown
  have a0 : (w.alloc (.cells #[.int .i64 k, .int .i64 n, .string s] 56)).heap[w.heap.size]? = some (.cells #[.int .i64 k, .int .i64 n, .string s] 56 (0, 0)) := heap_alloc_new w _
  have hR := Lib.hid (fun W => right75 ⟨k, n, s⟩ W hf)
  unfold Vl.agg at *
  have hE : Hid (encV ⟨k, n, s⟩ = if okV ⟨k, n, s⟩ = true then (if k = 1 then 1 :: encI n else if k = 2 then 2 :: encT s else [3, UInt8.ofNat n.toNat]) else 1 :: encI 0) := rfl
  generalize encV ⟨k, n, s⟩ = E at *
  have c0 : (w.alloc (.cells #[.int .i64 k, .int .i64 n, .string s] 56)).cell? ⟨w.heap.size, 0, none⟩ = some (.int .i64 k) := (blk_cell a0 0).trans rfl
  have c1 : (w.alloc (.cells #[.int .i64 k, .int .i64 n, .string s] 56)).cell? ⟨w.heap.size, 1, none⟩ = some (.int .i64 n) := (blk_cell a0 1).trans rfl
  have c2 : (w.alloc (.cells #[.int .i64 k, .int .i64 n, .string s] 56)).cell? ⟨w.heap.size, 2, none⟩ = some (.string s) := (blk_cell a0 2).trans rfl
  clear a0
  go_enter Try.func31, Try.ntmps31
  go_upto_region 1 with fail
  generalize w.alloc (.cells #[.int .i64 k, .int .i64 n, .string s] 56) = X at *
  go_wp2_with fail
  (with_reducible refine (hR.out _).mono ?_)
  rintro e W1 ⟨rfl, hB1⟩
  have P1 := P0.trans (hB1.mono P0.size)
  replace c0 := pw_cell_below hB1 c0
  replace c1 := pw_cell_below hB1 c1
  replace c2 := pw_cell_below hB1 c2
  clear hR hB1 P0
  cases hok : okV ⟨k, n, s⟩ with
  | false =>
    have hE2 : Hid (S [1] ++ S (encI 0) = S E) := by show _ = _; rw [S_app, hE.out, hok]; rfl
    have hN := Lib.hid (signed29 0 (by omega) (by omega) W1)
    have hsz : (S (encI 0)).size ≤ 9 := by rw [S_size]; exact encI_len (by omega) (by omega)
    generalize S (encI 0) = R at *
    have c3 : 1 + R.size ≤ 9223372036854775807 := by omega
    go_wp2_with fail
    (with_reducible refine hN.out.mono ?_)
    rintro e W2 ⟨rfl, hB2⟩
    go_wp2
    go_ret
    exact ⟨by rw [← hE2.out]; rfl, P1.trans (hB2.mono P1.size)⟩
  | true =>
    have hkk : k = 1 ∨ k = 2 ∨ (k = 3 ∧ 0 ≤ n ∧ n ≤ 1) := by
      simp [okV] at hok; omega
    rcases hkk with rfl | rfl | ⟨rfl, n0, n1⟩
    · have hE2 : Hid (S [1] ++ S (encI n) = S E) := by show _ = _; rw [S_app, hE.out, hok]; rfl
      have hN := Lib.hid (signed29 n hfn hfn1 W1)
      have hsz : (S (encI n)).size ≤ 9 := by rw [S_size]; exact encI_len (by omega) (by omega)
      generalize S (encI n) = R at *
      have c3 : 1 + R.size ≤ 9223372036854775807 := by omega
      go_wp2_with fail
      (with_reducible refine hN.out.mono ?_)
      rintro e W2 ⟨rfl, hB2⟩
      go_wp2
      go_ret
      exact ⟨by rw [← hE2.out]; rfl, P1.trans (hB2.mono P1.size)⟩
    · have hE2 : Hid (S [2] ++ S (encT s) = S E) := by show _ = _; rw [S_app, hE.out, hok]; rfl
      have hN := Lib.hid (text30 s (by omega) W1)
      have hsz : (S (encT s)).size ≤ 1000000 := by rw [S_size]; have := encT_len (s := s) (by omega); omega
      generalize S (encT s) = R at *
      have c3 : 1 + R.size ≤ 9223372036854775807 := by omega
      go_wp2_with fail
      (with_reducible refine hN.out.mono ?_)
      rintro e W2 ⟨rfl, hB2⟩
      go_wp2
      go_ret
      exact ⟨by rw [← hE2.out]; rfl, P1.trans (hB2.mono P1.size)⟩
    · have hE2 : Hid (S [3, UInt8.ofNat n.toNat] = S E) := by show _ = _; rw [hE.out, hok]; rfl
      have m8 : n = ((UInt8.ofNat n.toNat).toNat : Int) := by rw [UInt8.toNat_ofNat']; omega
      have P2 : Below W1.heap.size W1 (W1.alloc (.cells #[.int .u8 3, .int .u8 n] 5)) := by go_grown
      have hT := to_string (c := 2) (two_u (w := W1) (a := 3) (b := n) 3 (UInt8.ofNat n.toNat) rfl m8 5)
      replace m8 := Lib.hid m8
      go_wp2
      go_ret
      exact ⟨by rw [← hE2.out]; rfl, P1.trans (P2.mono P1.size)⟩
/-- A loop that adds texts. -/
def LpT {α : Type} (w : World) (l : List UInt8) (f : α → List UInt8) (xs : List α) (n kq : Nat) (t i : Value) (wr : World) : Prop := ∃ k : Nat, t = .string (S (l ++ (xs.take k).flatMap f)) ∧ i = .int .i64 (k : Int) ∧ k ≤ n ∧ kq = n - k ∧ Below w.heap.size w wr
theorem LpT.start {α : Type} {w0 w : World} {l : List UInt8} {f : α → List UInt8} {xs : List α} {n : Nat} (h : Below w0.heap.size w0 w) : LpT w0 l f xs n n (.string (S l)) (.int .i64 0) w := ⟨0, by simp, rfl, by omega, by omega, h⟩
/-- What a round of it adds. -/
theorem add_round {α : Type} [Inhabited α] (l : List UInt8) (f : α → List UInt8) (xs : List α) (k : Nat) (h : k < xs.length) : S (l ++ (xs.take k).flatMap f) ++ S (f (el xs k)) = S (l ++ (xs.take (k + 1)).flatMap f) := by
  rw [S_app, take_flat f xs k h, List.append_assoc]
set_option maxRecDepth 8000 in
set_option maxHeartbeats 2000000 in
theorem row32 (A : Option Addr) (n c : Nat) (ns : List Vl) (w : World) (hr : RdV w A n ns) (hl : wt ns ≤ 900000) : Calls Try.prog 32 #[.slice A n c] w (Ans (S (encRow ns)) w) := by
  have hnb : n ≤ 9223372036854775807 := hr.2.1
  have hns : Hid (ns.take n = ns) := List.take_of_length_le (by rw [hr.1]; exact Nat.le_refl _)
  have hE : Hid (encRow ns = encS (n : Int) ++ ns.flatMap encV) := by show _ = _; rw [encRow, hr.1]; rfl
  have hN := Lib.hid (size28 (n : Int) (by omega) (by omega) w)
  have h9 := encS_len (n := (n : Int)) (by omega) (by omega)
  generalize encS (n : Int) = L at *
  have hmem := Lib.hid (fits_mem hr)
  replace hr := Lib.hid hr
  go_enter Try.func32, Try.ntmps32
  go_wp2_with fail
  (with_reducible refine hN.out.mono ?_)
  rintro e W ⟨rfl, hB⟩
  clear hN
  go_wp2
  go_loopg [3, 4] n (fun kq t i wr => LpT w L encV ns n kq t i wr)
  case atStart => exact LpT.start hB
  case round =>
    obtain ⟨k, rfl, rfl, hk, rfl, hw⟩ := hrel
    by_cases hlt : k < n
    · obtain ⟨b, o, rfl, ⟨z0, z1, z2, hf⟩, q2⟩ := (rdV_below hr.out hw).at_ hlt
      have q0 : (0 : Int) ≤ (k : Int) := by omega
      have q1 : (k : Int) < (n : Int) := by omega
      have hst := Lib.hid (add_round L encV ns k (by rw [hr.out.1]; exact hlt))
      have e1 := wt_le (ns.take k) (fun x hx => hmem.out x (List.mem_of_mem_take hx))
      have e2 := wt_take ns k (by rw [hr.out.1]; exact hlt)
      have hV := Lib.hid (value31 (el ns k) hf (by omega) wr)
      have e3 := encV_len (el ns k) hf
      have c3 : (S (L ++ (ns.take k).flatMap encV)).size + (S (encV (el ns k))).size ≤ 9223372036854775807 := by
        rw [S_size, S_size, List.length_append]; omega
      clear e1 e2 e3
      generalize S (L ++ (ns.take k).flatMap encV) = T1 at *
      generalize S (encV (el ns k)) = T2 at *
      generalize el ns k = x at *
      obtain ⟨xk, xn, xs⟩ := x
      dsimp only [Vl.agg] at *
      replace hf := Lib.hid hf
      go_wp2_with fail
      (with_reducible refine hV.out.mono ?_)
      rintro e W2 ⟨rfl, hB2⟩
      clear hV
      go_wp2
      go_roundg (n - (k + 1))
      case measure => omega
      case rel => exact ⟨k + 1, by rw [hst.out], by congr 1, by omega, rfl, hw.trans (hB2.mono hw.size)⟩
    · obtain rfl : k = n := by omega
      go_wp2
      go_ret
      exact ⟨by rw [hE.out, hns.out]; rfl, hw⟩
set_option maxRecDepth 8000 in
set_option maxHeartbeats 2000000 in
theorem rows33 (A : Option Addr) (n c : Nat) (ls : List (List Vl)) (w : World) (hr : RdR w A n ls) (hl : wtR ls ≤ 800000) : Calls Try.prog 33 #[.slice A n c] w (Ans (S (encRows ls)) w) := by
  have hnb : n ≤ 9223372036854775807 := hr.2.1
  have hns : Hid (ls.take n = ls) := List.take_of_length_le (by rw [hr.1]; exact Nat.le_refl _)
  have hE : Hid (encRows ls = encS (n : Int) ++ ls.flatMap encRow) := by show _ = _; rw [encRows, hr.1]; rfl
  have hN := Lib.hid (size28 (n : Int) (by omega) (by omega) w)
  have h9 := encS_len (n := (n : Int)) (by omega) (by omega)
  generalize encS (n : Int) = L at *
  have hmem := Lib.hid (rows_mem hr)
  replace hr := Lib.hid hr
  go_enter Try.func33, Try.ntmps33
  go_wp2_with fail
  (with_reducible refine hN.out.mono ?_)
  rintro e W ⟨rfl, hB⟩
  clear hN
  go_wp2
  go_loopg [3, 4] n (fun kq t i wr => LpT w L encRow ls n kq t i wr)
  case atStart => exact LpT.start hB
  case round =>
    obtain ⟨k, rfl, rfl, hk, rfl, hw⟩ := hrel
    by_cases hlt : k < n
    · obtain ⟨b, o, rfl, ⟨A1, n1, c1, z0, hrv, h1, h2⟩, q2⟩ := (rdR_below hr.out hw).at_ hlt
      have q0 : (0 : Int) ≤ (k : Int) := by omega
      have q1 : (k : Int) < (n : Int) := by omega
      rw [Nat.mul_one] at z0 q2
      have hst := Lib.hid (add_round L encRow ls k (by rw [hr.out.1]; exact hlt))
      have e1 := wtR_le (ls.take k) (fun x hx => hmem.out x (List.mem_of_mem_take hx))
      have e2 := wtR_take ls k (by rw [hr.out.1]; exact hlt)
      have hV := Lib.hid (row32 A1 n1 c1 (el ls k) wr hrv (by omega))
      have e3 := encRow_len (el ls k) (fits_mem hrv) (by rw [hrv.1]; exact hrv.2.1)
      have c3 : (S (L ++ (ls.take k).flatMap encRow)).size + (S (encRow (el ls k))).size ≤ 9223372036854775807 := by
        rw [S_size, S_size, List.length_append]; omega
      clear e1 e2 e3 hrv
      generalize S (L ++ (ls.take k).flatMap encRow) = T1 at *
      generalize S (encRow (el ls k)) = T2 at *
      go_wp2_with fail
      (with_reducible refine hV.out.mono ?_)
      rintro e W2 ⟨rfl, hB2⟩
      clear hV
      go_wp2
      go_roundg (n - (k + 1))
      case measure => omega
      case rel => exact ⟨k + 1, by rw [hst.out], by congr 1, by omega, rfl, hw.trans (hB2.mono hw.size)⟩
    · obtain rfl : k = n := by omega
      go_wp2
      go_ret
      exact ⟨by rw [hE.out, hns.out]; rfl, hw⟩
end Go.Proofs.Ytegkclehijdbiaa.RW
