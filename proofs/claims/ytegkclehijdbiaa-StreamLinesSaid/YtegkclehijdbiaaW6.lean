import Derived.Test.YtegkclehijdbiaaMW
import Derived.Test.YtegkclehijdbiaaCN
set_option linter.unusedSimpArgs false
set_option linter.unusedVariables false
namespace Go.Proofs.Ytegkclehijdbiaa.W6
open Go.RowKit Go.Proofs.YtegkclehijdbiaaW.PrintWords Go.Proofs.Ytegkclehijdbiaa.V1 Go.Proofs.Ytegkclehijdbiaa.V2 Go.Proofs.Ytegkclehijdbiaa.V3 Go.Proofs.Ytegkclehijdbiaa.VD Go.Proofs.Ytegkclehijdbiaa.N1 Go.Proofs.Ytegkclehijdbiaa.N2 Go.Proofs.Ytegkclehijdbiaa.N3 Go.Proofs.Ytegkclehijdbiaa.CA Go.Proofs.Ytegkclehijdbiaa.CB Go.Proofs.Ytegkclehijdbiaa.CC Go.Proofs.Ytegkclehijdbiaa.CD Go.Proofs.Ytegkclehijdbiaa.CG Go.Proofs.Ytegkclehijdbiaa.CN Go.Proofs.Ytegkclehijdbiaa.W1 Go.Proofs.Ytegkclehijdbiaa.W2 Go.Proofs.Ytegkclehijdbiaa.W3 Go.Proofs.Ytegkclehijdbiaa.W4 Go.Proofs.Ytegkclehijdbiaa.W5
open Go.Proofs.YtegkclehijdbiaaW.PrintLast hiding takeB

theorem own_ge {w : World} {base sz n : Nat} {e : TypeId} {v : Value} {xs : List Value} (h : w.ownsRow base e sz v n xs) : ∀ k, v.ownBlock = some k → base ≤ k := by
  intro k e
  rcases h.2 with ⟨rfl, _⟩ | ⟨g', cap, cur, rfl, hb, _⟩
  · simp [Value.ownBlock] at e
  · have : g' = k := by simpa [Value.ownBlock] using e
    omega
/-- How much rows may weigh. -/
def wtR (ls : List (List Vl)) : Nat := (ls.map fun r => 9 + wt r).sum
theorem encRow_len (r : List Vl) (hf : ∀ x ∈ r, x.Fit) (hn : r.length ≤ 9223372036854775807) : (encRow r).length ≤ 9 + wt r := by
  have h1 := num_len r.length (by omega)
  have h2 := wt_le r hf
  rw [encRow, List.length_append]; omega
theorem wtR_le : ∀ (ls : List (List Vl)), (∀ r ∈ ls, (∀ x ∈ r, x.Fit) ∧ r.length ≤ 9223372036854775807) → (ls.flatMap encRow).length ≤ wtR ls
  | [], _ => by simp [wtR]
  | r :: ls, h => by
    have h1 := encRow_len r (h r (by simp)).1 (h r (by simp)).2
    have h2 := wtR_le ls (fun y hy => h y (by simp [hy]))
    simp only [wtR, List.flatMap_cons, List.length_append, List.map_cons, List.sum_cons] at h2 ⊢
    omega
theorem wtR_take (ls : List (List Vl)) (k : Nat) (h : k < ls.length) : wtR (ls.take k) + 9 + wt (el ls k) ≤ wtR ls := by
  have e : ls = ls.take k ++ el ls k :: ls.drop (k + 1) := by
    have : el ls k = ls[k] := by simp [el, List.getD, h]
    rw [this, List.getElem_cons_drop, List.take_append_drop]
  conv => rhs; rw [e]
  simp only [wtR, List.map_append, List.sum_append, List.map_cons, List.sum_cons]
  omega
theorem rows_mem {w : World} {A : Option Addr} {n : Nat} {ls : List (List Vl)} (h : RdR w A n ls) : ∀ r ∈ ls, (∀ x ∈ r, x.Fit) ∧ r.length ≤ 9223372036854775807 :=
  rd_mem h (fun r => (∀ x ∈ r, x.Fit) ∧ r.length ≤ 9223372036854775807) (fun _ _ _ h => by
    obtain ⟨A1, n1, c1, _, hr, h1, h2⟩ := h
    exact ⟨fits_mem hr, by rw [hr.1]; exact hr.2.1⟩)
set_option maxRecDepth 8000 in
set_option maxHeartbeats 1000000 in
theorem rows39 (w0 : World) (base g : Nat) (v : Value) (l : List UInt8) (A : Option Addr) (n c : Nat) (ls : List (List Vl)) (w : World) (h : Wr w base g v l) (hr : RdR w0 A n ls) (hB : Below w0.heap.size w0 w) (hbs : w0.heap.size ≤ base) (hl : l.length + 9 + wtR ls ≤ 7000000) :
    Calls Try.prog 39 #[.pointer (some ⟨g, 0, none⟩), .slice A n c] w (WrS w base g v (.pointer (some ⟨g, 0, none⟩)) (l ++ encRows ls)) := by
  have hnb : n ≤ 9223372036854775807 := hr.2.1
  have hE : Hid (encRows ls = num n ++ ls.flatMap encRow) := by show _ = _; rw [encRows, hr.1]
  have P2 : Below w.heap.size w (w.alloc (.cells #[.int .i64 (n : Int)] 3)) := by go_grown
  have hS := Lib.hid (size34 base g v l (some ⟨w.heap.size, 0, none⟩) 1 1 [(n : Int)] _ (h.below P2) (one_n (by omega) (by omega) 3) (out_n h _) (by omega) (by omega))
  have hlen : Hid ((l ++ [(n : Int)].flatMap encS).length ≤ l.length + 9) := by
    show _ ≤ _
    have := encS_len (n := (n : Int)) (by omega) (by omega)
    simp; omega
  have hl2 : Hid (l ++ encRows ls = (l ++ [(n : Int)].flatMap encS) ++ ls.flatMap encRow) := by
    show _ = _; rw [hE.out]; simp [encS]
  have hbg := h.2.2
  have hog := own_ge h.2.1
  have hmem := Lib.hid (rows_mem hr)
  have hns : Hid (ls.take n = ls) := List.take_of_length_le (by rw [hr.1]; exact Nat.le_refl _)
  generalize encRows ls = E at *
  generalize l ++ [(n : Int)].flatMap encS = l1 at *
  replace hr := Lib.hid hr
  clear hE h
  go_enter Try.func39, Try.ntmps39
  go_wp2_with fail
  (with_reducible refine hS.out.mono ?_)
  rintro e W2 ⟨v2, rfl, hw2, hk2⟩
  have hK := (KW.below (g := g) (o := v.ownBlock) P2).trans hk2
  have hB2 : Below w0.heap.size w0 W2 := hB.trans (hK.to_below (by omega) (fun k e => Nat.le_trans hbs (hog k e)) hB.size)
  have hog2 := own_ge hw2.2.1
  replace hw2 := Lib.hid hw2
  clear hS P2
  go_wp2
  go_loopg [14] n (fun kq i wr => LpW W2 base g v2 l1 encRow ls n kq i wr)
  case atStart => exact LpW.start hw2.out
  case round =>
    obtain ⟨v', k, rfl, hk, rfl, hw, hkw⟩ := hrel
    have hBk : Below w0.heap.size w0 wr := hB2.trans (hkw.to_below (by omega) (fun k e => Nat.le_trans hbs (hog2 k e)) hB2.size)
    have hog3 := own_ge hw.2.1
    replace hw := Lib.hid hw
    by_cases hlt : k < n
    · obtain ⟨b, o, rfl, ⟨A1, n1, c1, z0, hrv0, h1, h2⟩, q2⟩ := hr.out.at_ hlt
      have z1 := pw_cell_below hBk z0
      have hrv := rdV_below hrv0 hBk
      have q0 : (0 : Int) ≤ (k : Int) := by omega
      have q1 : (k : Int) < (n : Int) := by omega
      rw [Nat.mul_one] at z1 q2
      have hout : OutA wr g v'.ownBlock A1 n1 := fun hn ad e => by
        have h3 := rdV_lt hrv0 hn ad e
        refine ⟨Nat.lt_of_lt_of_le h3 hBk.size, by omega, fun e2 => ?_⟩
        have := hog3 _ e2
        omega
      have hst := Lib.hid (take_flat encRow ls k (by rw [hr.out.1]; exact hlt))
      have hb1 : (l1 ++ (ls.take k).flatMap encRow).length + 9 + wt (el ls k) ≤ 8000000 := by
        have e1 := wtR_le (ls.take k) (fun x hx => hmem.out x (List.mem_of_mem_take hx))
        have e2 := wtR_take ls k (by rw [hr.out.1]; exact hlt)
        have e3 := hlen.out
        rw [List.length_append]; omega
      have hfin : Hid (∀ v2 W2, Wr W2 base g v2 (l1 ++ (ls.take k).flatMap encRow ++ encRow (el ls k)) → Wr W2 base g v2 (l1 ++ (ls.take (k + 1)).flatMap encRow)) := by
        intro v2 W2 h2
        rw [hst.out, ← List.append_assoc]; exact h2
      have hN := Lib.hid (row38 base g v' _ A1 n1 c1 (el ls k) wr hw.out hrv hout hb1)
      generalize encRow (el ls k) = Q at *
      clear hst hrv hrv0 z0 hb1
      go_wp2_with fail
      (with_reducible refine hN.out.mono ?_)
      rintro e W3 ⟨v3, rfl, hw3, hk3⟩
      replace hw3 := Lib.hid (hfin.out _ _ hw3)
      clear hN
      go_wp2
      go_roundg (n - (k + 1))
      case measure => omega
      case rel => exact ⟨v3, k + 1, by congr 1, by omega, rfl, hw3.out, hkw.trans hk3⟩
    · obtain rfl : k = n := by omega
      go_wp2
      go_ret
      rw [hns.out] at hw
      exact ⟨v', rfl, by rw [hl2.out]; exact hw.out, hK.trans hkw⟩
/-- A loop that lays nothing. -/
def LpN (w : World) (n kq : Nat) (i : Value) (wr : World) : Prop := ∃ k : Nat, i = .int .i64 (k : Int) ∧ k ≤ n ∧ kq = n - k ∧ Below w.heap.size w wr
theorem LpN.start (w : World) (n : Nat) : LpN w n n (.int .i64 0) w := ⟨0, rfl, by omega, by omega, Below.refl _ _⟩
theorem rdN_below {w w' : World} {A : Option Addr} {n : Nat} {l : List Int} (h : RdN w A n l) (hb : Below w.heap.size w w') : RdN w' A n l := Rd.below (P := atN) (fun h hb => ⟨pw_cell_below hb h.1, h.2⟩) h hb
theorem rdT_below {w w' : World} {A : Option Addr} {n : Nat} {l : List ByteArray} (h : RdT w A n l) (hb : Below w.heap.size w w') : RdT w' A n l := Rd.below (P := atT) (fun h hb => ⟨pw_cell_below hb h.1, h.2⟩) h hb
set_option maxHeartbeats 1000000 in
theorem size34N (A : Option Addr) (n c : Nat) (ns : List Int) (w : World) (hr : RdN w A n ns) : Calls Try.prog 34 #[.pointer none, .slice A n c] w (StN (.pointer none) w) := by
  have hnb : n ≤ 9223372036854775807 := hr.2.1
  replace hr := Lib.hid hr
  go_enter Try.func34, Try.ntmps34
  go_wp2
  go_loopg [9] n (fun kq i wr => LpN w n kq i wr)
  case atStart => exact LpN.start w n
  case round =>
    obtain ⟨k, rfl, hk, rfl, hw⟩ := hrel
    by_cases hlt : k < n
    · obtain ⟨b, o, rfl, ⟨c0, y0, y1⟩, q2⟩ := (rdN_below hr.out hw).at_ hlt
      have q0 : (0 : Int) ≤ (k : Int) := by omega
      have q1 : (k : Int) < (n : Int) := by omega
      rw [Nat.mul_one] at c0 q2
      go_wp2
      go_roundg (n - (k + 1))
      case measure => omega
      case rel => exact ⟨k + 1, by congr 1, by omega, rfl, hw⟩
    · obtain rfl : k = n := by omega
      go_wp2
      go_ret
      exact ⟨rfl, hw⟩
set_option maxHeartbeats 1000000 in
theorem text36N (A : Option Addr) (n c : Nat) (ns : List ByteArray) (w : World) (hr : RdT w A n ns) : Calls Try.prog 36 #[.pointer none, .slice A n c] w (StN (.pointer none) w) := by
  have hnb : n ≤ 9223372036854775807 := hr.2.1
  replace hr := Lib.hid hr
  go_enter Try.func36, Try.ntmps36
  go_wp2
  go_loopg [9] n (fun kq i wr => LpN w n kq i wr)
  case atStart => exact LpN.start w n
  case round =>
    obtain ⟨k, rfl, hk, rfl, hw⟩ := hrel
    by_cases hlt : k < n
    · obtain ⟨b, o, rfl, ⟨c0, y0⟩, q2⟩ := (rdT_below hr.out hw).at_ hlt
      have q0 : (0 : Int) ≤ (k : Int) := by omega
      have q1 : (k : Int) < (n : Int) := by omega
      rw [Nat.mul_one] at c0 q2
      go_wp2
      go_roundg (n - (k + 1))
      case measure => omega
      case rel => exact ⟨k + 1, by congr 1, by omega, rfl, hw⟩
    · obtain rfl : k = n := by omega
      go_wp2
      go_ret
      exact ⟨rfl, hw⟩
set_option maxHeartbeats 1000000 in
theorem value37N (A : Option Addr) (n c : Nat) (ns : List Vl) (w : World) (hr : RdV w A n ns) : Calls Try.prog 37 #[.pointer none, .slice A n c] w (StN (.pointer none) w) := by
  have hnb : n ≤ 9223372036854775807 := hr.2.1
  replace hr := Lib.hid hr
  go_enter Try.func37, Try.ntmps37
  go_wp2
  go_loopg [9] n (fun kq i wr => LpN w n kq i wr)
  case atStart => exact LpN.start w n
  case round =>
    obtain ⟨k, rfl, hk, rfl, hw⟩ := hrel
    by_cases hlt : k < n
    · obtain ⟨b, o, rfl, ⟨z0, z1, z2, hf⟩, q2⟩ := (rdV_below hr.out hw).at_ hlt
      have q0 : (0 : Int) ≤ (k : Int) := by omega
      have q1 : (k : Int) < (n : Int) := by omega
      generalize el ns k = x at *
      obtain ⟨xk, xn, xs⟩ := x
      dsimp only [Vl.agg] at *
      replace hf := Lib.hid hf
      have P2 : Below wr.heap.size wr (wr.alloc (.cells #[.int .i64 xk, .int .i64 xn, .string xs] 56)) := by go_grown
      go_wp2
      go_roundg (n - (k + 1))
      case measure => omega
      case rel => exact ⟨k + 1, by congr 1, by omega, rfl, hw.trans (P2.mono hw.size)⟩
    · obtain rfl : k = n := by omega
      go_wp2
      go_ret
      exact ⟨rfl, hw⟩
set_option maxHeartbeats 1000000 in
theorem row38N (A : Option Addr) (n c : Nat) (ns : List Vl) (w : World) (hr : RdV w A n ns) : Calls Try.prog 38 #[.pointer none, .slice A n c] w (StN (.pointer none) w) := by
  have hnb : n ≤ 9223372036854775807 := hr.2.1
  have P2 : Below w.heap.size w (w.alloc (.cells #[.int .i64 (n : Int)] 3)) := by go_grown
  have hS := Lib.hid (size34N (some ⟨w.heap.size, 0, none⟩) 1 1 [(n : Int)] _ (one_n (w := w) (by omega) (by omega) 3))
  replace hr := Lib.hid hr
  go_enter Try.func38, Try.ntmps38
  go_wp2_with fail
  (with_reducible refine hS.out.mono ?_)
  rintro e W2 ⟨rfl, hb2⟩
  have hB2 := P2.trans (hb2.mono P2.size)
  have hV := Lib.hid (value37N A n c ns W2 (rdV_below hr.out hB2))
  clear hS
  go_wp2_with fail
  (with_reducible refine hV.out.mono ?_)
  rintro e W3 ⟨rfl, hb3⟩
  go_wp2
  go_ret
  exact ⟨rfl, hB2.trans (hb3.mono hB2.size)⟩
set_option maxHeartbeats 1000000 in
theorem rows39N (A : Option Addr) (n c : Nat) (ls : List (List Vl)) (w : World) (hr : RdR w A n ls) : Calls Try.prog 39 #[.pointer none, .slice A n c] w (StN (.pointer none) w) := by
  have hnb : n ≤ 9223372036854775807 := hr.2.1
  have P2 : Below w.heap.size w (w.alloc (.cells #[.int .i64 (n : Int)] 3)) := by go_grown
  have hS := Lib.hid (size34N (some ⟨w.heap.size, 0, none⟩) 1 1 [(n : Int)] _ (one_n (w := w) (by omega) (by omega) 3))
  replace hr := Lib.hid hr
  go_enter Try.func39, Try.ntmps39
  go_wp2_with fail
  (with_reducible refine hS.out.mono ?_)
  rintro e W2 ⟨rfl, hb2⟩
  have hB2 := P2.trans (hb2.mono P2.size)
  clear hS P2 hb2
  go_wp2
  go_loopg [14] n (fun kq i wr => ∃ k : Nat, i = .int .i64 (k : Int) ∧ k ≤ n ∧ kq = n - k ∧ Below w.heap.size w wr)
  case atStart => exact ⟨0, rfl, by omega, by omega, hB2⟩
  case round =>
    obtain ⟨k, rfl, hk, rfl, hw⟩ := hrel
    by_cases hlt : k < n
    · obtain ⟨b, o, rfl, ⟨A1, n1, c1, z0, hrv0, h1, h2⟩, q2⟩ := hr.out.at_ hlt
      have z1 := pw_cell_below hw z0
      have hrv := rdV_below hrv0 hw
      have q0 : (0 : Int) ≤ (k : Int) := by omega
      have q1 : (k : Int) < (n : Int) := by omega
      rw [Nat.mul_one] at z1 q2
      have hN := Lib.hid (row38N A1 n1 c1 (el ls k) wr hrv)
      clear hrv hrv0 z0
      go_wp2_with fail
      (with_reducible refine hN.out.mono ?_)
      rintro e W3 ⟨rfl, hb3⟩
      clear hN
      go_wp2
      go_roundg (n - (k + 1))
      case measure => omega
      case rel => exact ⟨k + 1, by congr 1, by omega, rfl, hw.trans (hb3.mono hw.size)⟩
    · obtain rfl : k = n := by omega
      go_wp2
      go_ret
      exact ⟨rfl, hw⟩
set_option maxHeartbeats 400000 in
theorem string40N (w : World) : Calls Try.prog 40 #[.pointer none] w (SameW (.string ⟨#[]⟩) w) := by
  go_enter Try.func40, Try.ntmps40
  go_wp2
  go_ret
  exact ⟨rfl, rfl⟩
set_option maxHeartbeats 400000 in
theorem len41N (w : World) : Calls Try.prog 41 #[.pointer none] w (SameW (.int .i64 0) w) := by
  go_enter Try.func41, Try.ntmps41
  go_wp2
  go_ret
  exact ⟨rfl, rfl⟩
/-- Is there more than is asked of? If not, no text is long. -/
def gV (n : Nat) (l : List Vl) : Prop := n ≤ 30 ∧ ∀ x ∈ l, x.s.size ≤ 300
theorem el_mem {α : Type} [Inhabited α] {l : List α} {x : α} (h : x ∈ l) : ∃ i, i < l.length ∧ x = el l i := by
  obtain ⟨i, hi, rfl⟩ := List.mem_iff_getElem.1 h
  exact ⟨i, hi, by simp [el, List.getD, hi]⟩
set_option maxHeartbeats 1000000 in
theorem great25s (A : Option Addr) (n c : Nat) (l : List Vl) (w : World) (hr : RdV w A n l) : Calls Try.prog 25 #[.slice A n c] w (GrR w (gV n l)) := by
  have hn := hr.2.1
  by_cases hb : 30 < n
  · go_enter Try.func25, Try.ntmps25
    go_wp2
    go_ret
    exact ⟨true, rfl, by simp, Below.refl _ _⟩
  · go_enter Try.func25, Try.ntmps25
    go_wp2
    go_loopw [3] (fun i wr => ∃ k : Nat, i = .int .i64 k ∧ k ≤ n ∧ (∀ j, j < k → (el l j).s.size ≤ 300) ∧ ∃ q, wr = w.drewN q) (fun i _ => n - (intOf i).toNat)
    case atStart => exact ⟨0, rfl, by omega, (fun j hj => by omega), 0, rfl⟩
    case round =>
      obtain ⟨k, rfl, hk, hall, q, rfl⟩ := hrel
      replace hall := Lib.hid hall
      by_cases hlt : k < n
      · obtain ⟨g, o, rfl, ⟨c0, c1, c2, hf⟩, q2⟩ := hr.at_ hlt
        have q0 : (0 : Int) ≤ (k : Int) := by omega
        have q1 : (k : Int) < (n : Int) := by omega
        have hs := hf.s1
        by_cases hs3 : 300 < (el l k).s.size
        · go_wp2
          go_ret
          exact ⟨true, rfl, by simp, pw_below_drewN (Below.refl _ _) _⟩
        · go_wp2
          go_roundw
          case rel => exact ⟨k + 1, by go_num, by omega, (fun j hj => by
            rcases Nat.lt_or_ge j k with h | h
            · exact hall.out j h
            · obtain rfl : j = k := by omega
              omega), _, rfl⟩
          case measure => simp [intOf] <;> omega
      · obtain rfl : k = n := by omega
        go_wp2
        go_ret
        exact ⟨false, rfl, fun _ => ⟨by omega, fun x hx => by obtain ⟨i, hi, rfl⟩ := el_mem hx; exact hall.out i (by rw [← hr.1]; exact hi)⟩, pw_below_drewN (Below.refl _ _) _⟩
/-- The same of rows. -/
def gR (n : Nat) (ls : List (List Vl)) : Prop := n ≤ 30 ∧ ∀ r ∈ ls, gV r.length r
set_option maxHeartbeats 1000000 in
theorem great26 (A : Option Addr) (n c : Nat) (l : List (List Vl)) (w : World) (hr : RdR w A n l) : Calls Try.prog 26 #[.slice A n c] w (GrR w (gR n l)) := by
  have hn := hr.2.1
  replace hr := Lib.hid hr
  by_cases hb : 30 < n
  · go_enter Try.func26, Try.ntmps26
    go_wp2
    go_ret
    exact ⟨true, rfl, by simp, Below.refl _ _⟩
  · go_enter Try.func26, Try.ntmps26
    go_wp2
    go_loopw [3] (fun i wr => ∃ k : Nat, i = .int .i64 k ∧ k ≤ n ∧ (∀ j, j < k → gV (el l j).length (el l j)) ∧ Below w.heap.size w wr) (fun i _ => n - (intOf i).toNat)
    case atStart => exact ⟨0, rfl, by omega, (fun j hj => by omega), Below.refl _ _⟩
    case round =>
      obtain ⟨k, rfl, hk, hall, hB⟩ := hrel
      replace hall := Lib.hid hall
      by_cases hlt : k < n
      · obtain ⟨g, o, rfl, ⟨A1, n1, c1, z0, hrv0, h1, h2⟩, q2⟩ := (rdR_below hr.out hB).at_ hlt
        have q0 : (0 : Int) ≤ (k : Int) := by omega
        have q1 : (k : Int) < (n : Int) := by omega
        rw [Nat.mul_one] at z0 q2
        have hlen := Lib.hid hrv0.1
        have hG := Lib.hid (great25s A1 n1 c1 (el l k) wr hrv0)
        clear hrv0
        go_wp2_with fail
        (with_reducible refine hG.out.mono ?_)
        rintro e W2 ⟨G, rfl, hq, hB2⟩
        clear hG
        cases G with
        | true =>
          go_wp2
          go_ret
          exact ⟨true, rfl, by simp, hB.trans (hB2.mono hB.size)⟩
        | false =>
          have hq2 := Lib.hid (hq rfl)
          clear hq
          go_wp2
          go_roundw
          case rel => exact ⟨k + 1, by go_num, by omega, (fun j hj => by
            rcases Nat.lt_or_ge j k with h | h
            · exact hall.out j h
            · obtain rfl : j = k := by omega
              rw [hlen.out]; exact hq2.out), hB.trans (hB2.mono hB.size)⟩
          case measure => simp [intOf] <;> omega
      · obtain rfl : k = n := by omega
        go_wp2
        go_ret
        exact ⟨false, rfl, fun _ => ⟨by omega, fun x hx => by obtain ⟨i, hi, rfl⟩ := el_mem hx; exact hall.out i (by rw [← hr.out.1]; exact hi)⟩, hB⟩
theorem wt_g {n : Nat} {l : List Vl} (h : gV n l) (hn : l.length = n) : wt l ≤ 9300 := by
  have : ∀ (l : List Vl), (∀ x ∈ l, x.s.size ≤ 300) → wt l ≤ 310 * l.length := by
    intro l
    induction l with
    | nil => intro _; simp [wt]
    | cons x l ih =>
      intro h
      have h1 := h x (by simp)
      have h2 := ih (fun y hy => h y (by simp [hy]))
      simp only [wt, List.map_cons, List.sum_cons, List.length_cons] at h2 ⊢
      omega
  have h1 := this l h.2
  have h2 := h.1
  omega
theorem wtR_g {n : Nat} {ls : List (List Vl)} (h : gR n ls) (hn : ls.length = n) : wtR ls ≤ 279270 := by
  have : ∀ (l : List (List Vl)), (∀ r ∈ l, gV r.length r) → wtR l ≤ 9309 * l.length := by
    intro l
    induction l with
    | nil => intro _; simp [wtR]
    | cons x l ih =>
      intro h
      have h1 := wt_g (h x (by simp)) rfl
      have h2 := ih (fun y hy => h y (by simp [hy]))
      simp only [wtR, List.map_cons, List.sum_cons, List.length_cons] at h2 ⊢
      omega
  have h1 := this ls h.2
  have h2 := h.1
  omega
end Go.Proofs.Ytegkclehijdbiaa.W6
