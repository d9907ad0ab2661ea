import Derived.Test.YtegkclehijdbiaaRW
import Derived.Test.YtegkclehijdbiaaAW
import Derived.Test.YtegkclehijdbiaaOP
set_option linter.unusedVariables false
set_option linter.unusedSimpArgs false
namespace Go.Proofs.Ytegkclehijdbiaa.S6
open Go.RowKit Go.Proofs.Ytegkclehijdbiaa.V1 Go.Proofs.Ytegkclehijdbiaa.V3 Go.Proofs.Ytegkclehijdbiaa.VD Go.Proofs.Ytegkclehijdbiaa.N1 Go.Proofs.Ytegkclehijdbiaa.N2 Go.Proofs.Ytegkclehijdbiaa.CN Go.Proofs.Ytegkclehijdbiaa.W1 Go.Proofs.Ytegkclehijdbiaa.W2 Go.Proofs.Ytegkclehijdbiaa.W3 Go.Proofs.Ytegkclehijdbiaa.W4 Go.Proofs.Ytegkclehijdbiaa.W5 Go.Proofs.Ytegkclehijdbiaa.W6 Go.Proofs.Ytegkclehijdbiaa.PE Go.Proofs.Ytegkclehijdbiaa.RW Go.Proofs.Ytegkclehijdbiaa.AW
open Go.Proofs.YtegkclehijdbiaaW.PrintLast hiding takeB
open Go.Proofs.YtegkclehijdbiaaW.PrintWords hiding Ev

/-- What was there before the writer it leaves alone. -/
theorem outA_low {w0 w : World} {base g n : Nat} {v : Value} {l : List UInt8} {α : Type} [Inhabited α] {sz : Nat} {P : World → Nat → Nat → α → Prop} {A : Option Addr} {xs : List α} (hw : Wr w base g v l) (hB : Below w0.heap.size w0 w) (hbs : w0.heap.size ≤ base) (hr : Rd sz P w0 A n xs) (hP : ∀ {g o : Nat} {a : α}, P w0 g o a → g < w0.heap.size) : OutA w g v.ownBlock A n := fun hn ad e => by
  obtain ⟨b, o, e', hc⟩ := hr.2.2 hn
  rw [e] at e'
  cases e'
  have h1 := hP (hc 0 hn)
  have h2 := hw.2.2
  exact ⟨Nat.lt_of_lt_of_le h1 hB.size, by show b ≠ g; omega, fun e2 => by have : base ≤ b := own_ge hw.2.1 _ e2; omega⟩
theorem atN.lt {w : World} {g o : Nat} {a : Int} (h : atN w g o a) : g < w.heap.size := World.block_lt_of_cell? w ⟨g, o, none⟩ h.1
theorem atT.lt {w : World} {g o : Nat} {a : ByteArray} (h : atT w g o a) : g < w.heap.size := World.block_lt_of_cell? w ⟨g, o, none⟩ h.1
theorem atV.lt {w : World} {g o : Nat} {a : Vl} (h : atV w g o a) : g < w.heap.size := World.block_lt_of_cell? w ⟨g, o, none⟩ h.1
/-- A writer's method, seen from the world ahead of the writer. -/
theorem kw_low {w0 w w' : World} {base g : Nat} {v v' : Value} {l : List UInt8} (hw : Wr w base g v l) (hB : Below w0.heap.size w0 w) (hbs : w0.heap.size ≤ base) (k : KW g v.ownBlock w v'.ownBlock w') : Below w0.heap.size w0 w' :=
  hB.trans (k.to_below (Nat.le_trans hbs hw.2.2) (fun i e => Nat.le_trans hbs (own_ge hw.2.1 i e)) hB.size)
theorem texts_le (ts : List ByteArray) (h : ∀ x ∈ ts, x.size ≤ 1000) (k : Nat) (hk : k ≤ 30) : ((ts.take k).flatMap encT).length ≤ 30270 := by
  have h1 := flat_le encT 1009 (ts.take k) (fun x hx => by
    have h2 := h x (List.mem_of_mem_take hx)
    have h3 := encT_len (s := x) (by omega)
    omega)
  have h2 : (ts.take k).length ≤ k := by rw [List.length_take]; omega
  have h3 : 1009 * (ts.take k).length ≤ 1009 * 30 := Nat.mul_le_mul_left _ (by omega)
  omega
theorem nums_le (f : Int → List UInt8) (zs : List Int) (n : Nat) (hn : zs.length = n) (h30 : n ≤ 30) (h : ∀ x ∈ zs, (f x).length ≤ 9) : (zs.flatMap f).length ≤ 270 := by
  have h1 := flat_le f 9 zs h
  omega
theorem big {A B C D E F : List UInt8} (h0 : A.length ≤ 270) (h1 : B.length ≤ 270) (h2 : C.length ≤ 30270) (h3 : D.length ≤ 9300) (h4 : E.length ≤ 9309) (h5 : F.length ≤ 279279) : (A ++ B ++ C ++ D ++ E ++ F).length ≤ 400000 := by
  simp only [List.length_append]; omega
/-- The texts of a row that were looked at are short. -/
def TxL (ts : List ByteArray) (k : Nat) : Prop := ∀ j, j < k → (el ts j).size ≤ 1000
set_option maxRecDepth 20000 in
set_option maxHeartbeats 8000000 in
/-- CodecLays. -/
theorem law (A0 A1 A2 A3 A4 : Option Addr) (n0 n1 n2 n3 n4 c0 c1 c2 c3 c4 : Nat) (zs ms : List Int) (ts : List ByteArray) (vs : List Vl) (ls : List (List Vl)) (w : World)
    (r0 : OP.RdI w A0 n0 zs) (r1 : OP.RdI w A1 n1 ms) (r2 : OP.RdS w A2 n2 ts) (r3 : RdV w A3 n3 vs) (r4 : RdR w A4 n4 ls) :
    Calls Try.prog 5 #[.slice A0 n0 c0, .slice A1 n1 c1, .slice A2 n2 c2, .slice A3 n3 c3, .slice A4 n4 c4] w fun e w' => e = .returned (.bool true) ∧ Below w.heap.size w w' := by
  have r0 : RdN w A0 n0 zs := r0
  have r1 : RdN w A1 n1 ms := r1
  have r2 : RdT w A2 n2 ts := r2
  have b0 := r0.2.1
  have b1 := r1.2.1
  have b2 := r2.2.1
  have b3 := r3.2.1
  have b4 := r4.2.1
  have e0 := Lib.hid r0.1
  have e1 := Lib.hid r1.1
  have e2 := Lib.hid r2.1
  have e3 := Lib.hid r3.1
  have e4 := Lib.hid r4.1
  have hAw := Lib.hid awake27
  have hG3 := Lib.hid (great25s A3 n3 c3 vs w r3)
  replace r0 := Lib.hid r0
  replace r1 := Lib.hid r1
  replace r2 := Lib.hid r2
  replace r3 := Lib.hid r3
  replace r4 := Lib.hid r4
  by_cases h0 : 30 < n0
  · go_enter Try.func5, Try.ntmps5
    go_wp2_with fail
    (with_reducible refine (hAw.out _).mono ?_)
    rintro e W1 ⟨rfl, hB⟩
    go_wp2
    go_ret
    exact ⟨rfl, hB⟩
  by_cases h1 : 30 < n1
  · go_enter Try.func5, Try.ntmps5
    go_wp2_with fail
    (with_reducible refine (hAw.out _).mono ?_)
    rintro e W1 ⟨rfl, hB⟩
    go_wp2
    go_ret
    exact ⟨rfl, hB⟩
  by_cases h2 : 30 < n2
  · go_enter Try.func5, Try.ntmps5
    go_wp2_with fail
    (with_reducible refine (hAw.out _).mono ?_)
    rintro e W1 ⟨rfl, hB⟩
    go_wp2
    go_ret
    exact ⟨rfl, hB⟩
  go_enter Try.func5, Try.ntmps5
  go_wp2_with fail
  (with_reducible refine hG3.out.mono ?_)
  rintro e W1 ⟨G, rfl, hg3, hB1⟩
  clear hG3
  cases G with
  | true =>
    go_wp2_with fail
    (with_reducible refine (hAw.out _).mono ?_)
    rintro e W2 ⟨rfl, hB⟩
    go_wp2
    go_ret
    exact ⟨rfl, hB1.trans (hB.mono hB1.size)⟩
  | false =>
  have hg3q := Lib.hid (hg3 rfl)
  clear hg3
  have hG4 := Lib.hid (great26 A4 n4 c4 ls W1 (rdR_below r4.out hB1))
  go_wp2_with fail
  (with_reducible refine hG4.out.mono ?_)
  rintro e W2 ⟨G, rfl, hg4, hB2⟩
  clear hG4
  have hB2 := hB1.trans (hB2.mono hB1.size)
  cases G with
  | true =>
    go_wp2_with fail
    (with_reducible refine (hAw.out _).mono ?_)
    rintro e W3 ⟨rfl, hB⟩
    go_wp2
    go_ret
    exact ⟨rfl, hB2.trans (hB.mono hB2.size)⟩
  | false =>
  have hg4q := Lib.hid (hg4 rfl)
  clear hg4
  clear hB1
  have w3 : Hid (wt vs ≤ 9300) := wt_g hg3q.out e3.out
  have w4 : Hid (wtR ls ≤ 279270) := wtR_g hg4q.out e4.out
  obtain ⟨L0, hL0⟩ : ∃ L, L = zs.flatMap encS := ⟨_, rfl⟩
  obtain ⟨L1, hL1⟩ : ∃ L, L = ms.flatMap encI := ⟨_, rfl⟩
  obtain ⟨L2, hL2⟩ : ∃ L, L = ts.flatMap encT := ⟨_, rfl⟩
  obtain ⟨L3, hL3⟩ : ∃ L, L = vs.flatMap encV := ⟨_, rfl⟩
  replace hL0 := Lib.hid hL0
  replace hL1 := Lib.hid hL1
  replace hL2 := Lib.hid hL2
  replace hL3 := Lib.hid hL3
  have l0 : Hid (L0.length ≤ 270) := by rw [hL0.out]; exact nums_le encS zs n0 e0.out (by omega) (rd_mem r0.out (fun x => (encS x).length ≤ 9) (fun _ _ _ h => encS_len h.2.1 h.2.2))
  have l1 : Hid (L1.length ≤ 270) := by rw [hL1.out]; exact nums_le encI ms n1 e1.out (by omega) (rd_mem r1.out (fun x => (encI x).length ≤ 9) (fun _ _ _ h => encI_len h.2.1 h.2.2))
  have l3 : Hid (L3.length ≤ 9300) := by rw [hL3.out]; exact Nat.le_trans (wt_le vs (fits_mem r3.out)) w3.out
  have l4 : Hid ((encRow vs).length ≤ 9309) := by have := encRow_len vs (fits_mem r3.out) (by rw [e3.out]; exact b3); have := w3.out; show _ ≤ _; omega
  have l5 : Hid ((encRows ls).length ≤ 279279) := by
    have h6 := num_len ls.length (by rw [e4.out]; omega)
    have h7 := wtR_le ls (rows_mem r4.out)
    have h8 := w4.out
    show _ ≤ _
    rw [encRows, List.length_append]; omega
  go_wp2
  go_loopg [11, 12] n0 (fun kq t i wr => LpT w [] encS zs n0 kq t i wr)
  case atStart => exact LpT.start hB2
  case round =>
  obtain ⟨k, rfl, rfl, hk, rfl, hw⟩ := hrel
  by_cases hlt : k < n0
  · obtain ⟨b, o, rfl, ⟨z0, y0, y1⟩, q2⟩ := (rdN_below r0.out hw).at_ hlt
    have q0 : (0 : Int) ≤ (k : Int) := by omega
    have q1 : (k : Int) < (n0 : Int) := by omega
    rw [Nat.mul_one] at z0 q2
    have hst := Lib.hid (add_round [] encS zs k (by rw [e0.out]; exact hlt))
    have h4 := take_le encS 9 zs (rd_mem r0.out (fun x => (encS x).length ≤ 9) (fun _ _ _ h => encS_len h.2.1 h.2.2)) k
    have h5 := encS_len y0 y1
    have hV := Lib.hid (size28 (el zs k) y0 y1 wr)
    have cc : (S ([] ++ (zs.take k).flatMap encS)).size + (S (encS (el zs k))).size ≤ 9223372036854775807 := by
      rw [S_size, S_size, List.nil_append]; omega
    clear h4 h5
    generalize S ([] ++ (zs.take k).flatMap encS) = T1 at *
    generalize S (encS (el zs k)) = T2 at *
    go_wp2_with fail
    (with_reducible refine hV.out.mono ?_)
    rintro e W3 ⟨rfl, hB3⟩
    clear hV
    go_wp2
    go_roundg (n0 - (k + 1))
    case measure => omega
    case rel => exact ⟨k + 1, by rw [hst.out], by congr 1, by omega, rfl, hw.trans (hB3.mono hw.size)⟩
  obtain rfl : k = n0 := by omega
  rw [show ([] ++ (zs.take k).flatMap encS) = L0 by rw [hL0.out, List.take_of_length_le (by rw [e0.out]; exact Nat.le_refl _)]; rfl]
  have hB2 := hw
  clear hw hk hlt
  go_wp2
  go_loopg [11, 13] n1 (fun kq t i wr => LpT w L0 encI ms n1 kq t i wr)
  case atStart => exact LpT.start hB2
  case round =>
  obtain ⟨k1, rfl, rfl, hk, rfl, hw⟩ := hrel
  by_cases hlt : k1 < n1
  · obtain ⟨b, o, rfl, ⟨z0, y0, y1⟩, q2⟩ := (rdN_below r1.out hw).at_ hlt
    have q0 : (0 : Int) ≤ (k1 : Int) := by omega
    have q1 : (k1 : Int) < (n1 : Int) := by omega
    rw [Nat.mul_one] at z0 q2
    have hst := Lib.hid (add_round L0 encI ms k1 (by rw [e1.out]; exact hlt))
    have h4 := take_le encI 9 ms (rd_mem r1.out (fun x => (encI x).length ≤ 9) (fun _ _ _ h => encI_len h.2.1 h.2.2)) k1
    have h5 := encI_len y0 y1
    have hV := Lib.hid (signed29 (el ms k1) y0 y1 wr)
    have cc : (S (L0 ++ (ms.take k1).flatMap encI)).size + (S (encI (el ms k1))).size ≤ 9223372036854775807 := by
      have := l0.out
      rw [S_size, S_size, List.length_append]; omega
    clear h4 h5
    generalize S (L0 ++ (ms.take k1).flatMap encI) = T1 at *
    generalize S (encI (el ms k1)) = T2 at *
    go_wp2_with fail
    (with_reducible refine hV.out.mono ?_)
    rintro e W3 ⟨rfl, hB3⟩
    clear hV
    go_wp2
    go_roundg (n1 - (k1 + 1))
    case measure => omega
    case rel => exact ⟨k1 + 1, by rw [hst.out], by congr 1, by omega, rfl, hw.trans (hB3.mono hw.size)⟩
  obtain rfl : k1 = n1 := by omega
  rw [show (L0 ++ (ms.take k1).flatMap encI) = L0 ++ L1 by rw [hL1.out, List.take_of_length_le (by rw [e1.out]; exact Nat.le_refl _)]]
  have hB2 := hw
  clear hw hk hlt
  go_wp2
  go_loopg [11, 14] n2 (fun kq t i wr => LpT w (L0 ++ L1) encT ts n2 kq t i wr ∧ TxL ts (n2 - kq))
  case atStart => exact ⟨LpT.start hB2, fun j hj => by omega⟩
  case round =>
  obtain ⟨⟨k2, rfl, rfl, hk, rfl, hw⟩, htx⟩ := hrel
  rw [show n2 - (n2 - k2) = k2 by omega] at htx
  replace htx := Lib.hid htx
  by_cases hlt : k2 < n2
  · obtain ⟨b, o, rfl, ⟨z0, y0⟩, q2⟩ := (rdT_below r2.out hw).at_ hlt
    have q0 : (0 : Int) ≤ (k2 : Int) := by omega
    have q1 : (k2 : Int) < (n2 : Int) := by omega
    rw [Nat.mul_one] at z0 q2
    by_cases hbig : 1000 < (el ts k2).size
    · go_wp2_with fail
      (with_reducible refine (hAw.out _).mono ?_)
      rintro e W3 ⟨rfl, hB⟩
      go_wp2
      go_ret
      exact ⟨rfl, hw.trans (hB.mono hw.size)⟩
    have hst := Lib.hid (add_round (L0 ++ L1) encT ts k2 (by rw [e2.out]; exact hlt))
    have h4 : ((ts.take k2).flatMap encT).length ≤ 30270 := by
      have := texts_le (ts.take k2) (fun x hx => by
        obtain ⟨i, hi, rfl⟩ := el_mem hx
        rw [List.length_take] at hi
        have e2 : el (ts.take k2) i = el ts i := by
          simp only [el, List.getD, List.getElem?_take]
          rw [if_pos (by omega)]
        rw [e2]; exact htx.out i (by omega)) k2 (by omega)
      rwa [List.take_take, Nat.min_self] at this
    have h5 := encT_len (s := el ts k2) (by omega)
    have hV := Lib.hid (text30 (el ts k2) (by omega) wr)
    have cc : (S (L0 ++ L1 ++ (ts.take k2).flatMap encT)).size + (S (encT (el ts k2))).size ≤ 9223372036854775807 := by
      have := l0.out
      have := l1.out
      rw [S_size, S_size, List.length_append, List.length_append]; omega
    clear h4 h5
    generalize S (L0 ++ L1 ++ (ts.take k2).flatMap encT) = T1 at *
    generalize S (encT (el ts k2)) = T2 at *
    go_wp2_with fail
    (with_reducible refine hV.out.mono ?_)
    rintro e W3 ⟨rfl, hB3⟩
    clear hV
    go_wp2
    go_roundg (n2 - (k2 + 1))
    case measure => omega
    case rel =>
      refine ⟨⟨k2 + 1, by rw [hst.out], by congr 1, by omega, rfl, hw.trans (hB3.mono hw.size)⟩, fun j hj => ?_⟩
      rcases Nat.lt_or_ge j k2 with h | h
      · exact htx.out j h
      · obtain rfl : j = k2 := by omega
        omega
  obtain rfl : k2 = n2 := by omega
  have hts : Hid (∀ x ∈ ts, x.size ≤ 1000) := fun x hx => by
    obtain ⟨i, hi, rfl⟩ := el_mem hx
    exact htx.out i (by rw [← e2.out]; exact hi)
  have l2 : Hid (L2.length ≤ 30270) := by
    rw [hL2.out]
    have := texts_le ts hts.out k2 (by omega)
    rwa [List.take_of_length_le (by rw [e2.out]; exact Nat.le_refl _)] at this
  rw [show (L0 ++ L1 ++ (ts.take k2).flatMap encT) = L0 ++ L1 ++ L2 by rw [hL2.out, List.take_of_length_le (by rw [e2.out]; exact Nat.le_refl _)]]
  have hB2 := hw
  clear hw hk hlt htx
  go_wp2
  go_loopg [11, 15] n3 (fun kq t i wr => LpT w (L0 ++ L1 ++ L2) encV vs n3 kq t i wr)
  case atStart => exact LpT.start hB2
  case round =>
  obtain ⟨k3, rfl, rfl, hk, rfl, hw⟩ := hrel
  by_cases hlt : k3 < n3
  · obtain ⟨b, o, rfl, ⟨z0, z1, z2, hf⟩, q2⟩ := (rdV_below r3.out hw).at_ hlt
    have q0 : (0 : Int) ≤ (k3 : Int) := by omega
    have q1 : (k3 : Int) < (n3 : Int) := by omega
    have hst := Lib.hid (add_round (L0 ++ L1 ++ L2) encV vs k3 (by rw [e3.out]; exact hlt))
    have h4 := wt_le (vs.take k3) (fun x hx => fits_mem r3.out x (List.mem_of_mem_take hx))
    have h5 := wt_take vs k3 (by rw [e3.out]; exact hlt)
    have h6 := w3.out
    have hV := Lib.hid (value31 (el vs k3) hf (by omega) wr)
    have h7 := encV_len (el vs k3) hf
    have cc : (S (L0 ++ L1 ++ L2 ++ (vs.take k3).flatMap encV)).size + (S (encV (el vs k3))).size ≤ 9223372036854775807 := by
      have := l0.out
      have := l1.out
      have := l2.out
      rw [S_size, S_size, List.length_append, List.length_append, List.length_append]; omega
    clear h4 h5 h6 h7
    generalize S (L0 ++ L1 ++ L2 ++ (vs.take k3).flatMap encV) = T1 at *
    generalize S (encV (el vs k3)) = T2 at *
    generalize el vs k3 = x at *
    obtain ⟨xk, xn, xs⟩ := x
    dsimp only [Vl.agg] at *
    replace hf := Lib.hid hf
    go_wp2_with fail
    (with_reducible refine hV.out.mono ?_)
    rintro e W3 ⟨rfl, hB3⟩
    clear hV
    go_wp2
    go_roundg (n3 - (k3 + 1))
    case measure => omega
    case rel => exact ⟨k3 + 1, by rw [hst.out], by congr 1, by omega, rfl, hw.trans (hB3.mono hw.size)⟩
  obtain rfl : k3 = n3 := by omega
  rw [show (L0 ++ L1 ++ L2 ++ (vs.take k3).flatMap encV) = L0 ++ L1 ++ L2 ++ L3 by rw [hL3.out, List.take_of_length_le (by rw [e3.out]; exact Nat.le_refl _)]]
  have hB2 := hw
  clear hw hk hlt
  have hlen := big l0.out l1.out l2.out l3.out l4.out l5.out
  have hQ : S (L0 ++ L1 ++ L2 ++ L3) ++ S (encRow vs) ++ S (encRows ls) = S (L0 ++ L1 ++ L2 ++ L3 ++ encRow vs ++ encRows ls) := by rw [S_app, S_app]
  have hcc1 : (S (L0 ++ L1 ++ L2 ++ L3)).size + (S (encRow vs)).size ≤ 9223372036854775807 := by
    simp only [S_size, List.length_append] at hlen ⊢; omega
  have hcc2 : (S (L0 ++ L1 ++ L2 ++ L3) ++ S (encRow vs)).size + (S (encRows ls)).size ≤ 9223372036854775807 := by
    rw [S_app]; simp only [S_size, List.length_append] at hlen ⊢; omega
  have hR3 := Lib.hid (row32 A3 k3 c3 vs wr (rdV_below r3.out hB2) (by have := w3.out; omega))
  have hR4 : Hid (∀ W, Below w.heap.size w W → Calls Try.prog 33 #[.slice A4 n4 c4] W (Ans (S (encRows ls)) W)) := fun W hW => rows33 A4 n4 c4 ls W (rdR_below r4.out hW) (by have := w4.out; omega)
  obtain ⟨LL, hLL⟩ : ∃ L, L = L0 ++ L1 ++ L2 ++ L3 ++ encRow vs ++ encRows ls := ⟨_, rfl⟩
  rw [← hLL] at hlen hQ
  replace hLL := Lib.hid hLL
  replace hlen := Lib.hid hlen
  replace hQ := Lib.hid hQ
  generalize S (L0 ++ L1 ++ L2 ++ L3) = T1 at *
  generalize S (encRow vs) = T2 at *
  generalize S (encRows ls) = T3 at *
  go_wp2_with fail
  (with_reducible refine hR3.out.mono ?_)
  rintro e W3 ⟨rfl, hB3⟩
  have hB3 := hB2.trans (hB3.mono hB2.size)
  clear hR3
  have hR4 := Lib.hid (hR4.out W3 hB3)
  go_wp2_with fail
  (with_reducible refine hR4.out.mono ?_)
  rintro e W4 ⟨rfl, hB4⟩
  have hB4 := hB3.trans (hB4.mono hB3.size)
  clear hR4 hB3 hB2
  have hsz : Hid ((LL.length : Int) = ((S LL).size : Int)) := by show _ = _; rw [S_size]
  go_upto_region 24 with fail
  rw [hQ.out]
  clear hQ hcc1 hcc2
  have PX : Below W4.heap.size W4 (W4.alloc (.cells #[.slice none 0 0] 64)) := by go_grown
  have hX : Wr (W4.alloc (.cells #[.slice none 0 0] 64)) w.heap.size W4.heap.size (.slice none 0 0) [] := ⟨heap_alloc_new W4 _, CF.own_nil _ _ _ _, hB4.size⟩
  have hBX := hB4.trans (PX.mono hB4.size)
  have hC0 := Lib.hid (size34 w.heap.size W4.heap.size _ [] A0 k c0 zs _ hX (rdN_below r0.out hBX) (outA_low hX hBX (Nat.le_refl _) r0.out atN.lt) (by omega) (by simp))
  generalize W4.alloc (.cells #[.slice none 0 0] 64) = X at *
  generalize W4.heap.size = g at *
  clear PX
  go_wp2_with fail
  (with_reducible refine hC0.out.mono ?_)
  rintro e U1 ⟨v1, rfl, hw1, hk1⟩
  have hU1 := kw_low hX hBX (Nat.le_refl _) hk1
  clear hC0 hk1
  rw [List.nil_append, ← hL0.out] at hw1
  have hC1 := Lib.hid (signed35 w.heap.size g v1 _ A1 k1 c1 ms _ hw1 (rdN_below r1.out hU1) (outA_low hw1 hU1 (Nat.le_refl _) r1.out atN.lt) (by omega) (by have := l0.out; omega))
  go_wp2_with fail
  (with_reducible refine hC1.out.mono ?_)
  rintro e U2 ⟨v2, rfl, hw2, hk2⟩
  have hU2 := kw_low hw1 hU1 (Nat.le_refl _) hk2
  clear hC1 hk2
  rw [← hL1.out] at hw2
  have hC2 := Lib.hid (text36 w.heap.size g v2 _ A2 k2 c2 ts _ hw2 (rdT_below r2.out hU2) (outA_low hw2 hU2 (Nat.le_refl _) r2.out atT.lt) (fun j hj => by
    have h1 := texts_le ts hts.out j (by omega)
    have h2 := l0.out
    have h3 := l1.out
    rw [List.length_append, List.length_append]; omega))
  go_wp2_with fail
  (with_reducible refine hC2.out.mono ?_)
  rintro e U3 ⟨v3, rfl, hw3, hk3⟩
  have hU3 := kw_low hw2 hU2 (Nat.le_refl _) hk3
  clear hC2 hk3
  rw [← hL2.out] at hw3
  have hC3 := Lib.hid (value37' w.heap.size g v3 _ A3 k3 c3 vs _ hw3 (rdV_below r3.out hU3) (outA_low hw3 hU3 (Nat.le_refl _) r3.out atV.lt) (by
    have h1 := w3.out
    have h2 := l0.out
    have h3 := l1.out
    have h4 := l2.out
    rw [List.length_append, List.length_append]; omega))
  go_wp2_with fail
  (with_reducible refine hC3.out.mono ?_)
  rintro e U4 ⟨v4, rfl, hw4, hk4⟩
  have hU4 := kw_low hw3 hU3 (Nat.le_refl _) hk4
  clear hC3 hk4
  rw [← hL3.out] at hw4
  have hC4 := Lib.hid (row38 w.heap.size g v4 _ A3 k3 c3 vs _ hw4 (rdV_below r3.out hU4) (outA_low hw4 hU4 (Nat.le_refl _) r3.out atV.lt) (by
    have h1 := w3.out
    have h2 := l0.out
    have h3 := l1.out
    have h4 := l2.out
    have h5 := l3.out
    rw [List.length_append, List.length_append, List.length_append]; omega))
  go_wp2_with fail
  (with_reducible refine hC4.out.mono ?_)
  rintro e U5 ⟨v5, rfl, hw5, hk5⟩
  have hU5 := kw_low hw4 hU4 (Nat.le_refl _) hk5
  clear hC4 hk5
  have hC5 := Lib.hid (rows39 w w.heap.size g v5 _ A4 n4 c4 ls _ hw5 r4.out hU5 (Nat.le_refl _) (by
    have h0 := w4.out
    have h1 := l4.out
    have h2 := l0.out
    have h3 := l1.out
    have h4 := l2.out
    have h5 := l3.out
    rw [List.length_append, List.length_append, List.length_append, List.length_append]; omega))
  go_wp2_with fail
  (with_reducible refine hC5.out.mono ?_)
  rintro e U6 ⟨v6, rfl, hw6, hk6⟩
  have hU6 := kw_low hw5 hU5 (Nat.le_refl _) hk6
  clear hC5 hk6
  rw [← hLL.out] at hw6
  clear hX hBX hw1 hU1 hw2 hU2 hw3 hU3 hw4 hU4 hw5 hU5
  have hD0 := Lib.hid (size34N A0 k c0 zs U6 (rdN_below r0.out hU6))
  go_wp2_with fail
  (with_reducible refine hD0.out.mono ?_)
  rintro e U7 ⟨rfl, hB7⟩
  have hU7 := hU6.trans (hB7.mono hU6.size)
  have hw7 := hw6.below hB7
  clear hD0 hB7 hw6 hU6
  have hD1 := Lib.hid (text36N A2 k2 c2 ts U7 (rdT_below r2.out hU7))
  go_wp2_with fail
  (with_reducible refine hD1.out.mono ?_)
  rintro e U8 ⟨rfl, hB8⟩
  have hU8 := hU7.trans (hB8.mono hU7.size)
  have hw8 := hw7.below hB8
  clear hD1 hB8 hw7 hU7
  have hD2 := Lib.hid (rows39N A4 n4 c4 ls U8 (rdR_below r4.out hU8))
  go_wp2_with fail
  (with_reducible refine hD2.out.mono ?_)
  rintro e U9 ⟨rfl, hB9⟩
  have hU9 := hU8.trans (hB9.mono hU8.size)
  have hw9 := hw8.below hB9
  clear hD2 hB9 hw8 hU8
  have hE0 : Calls Try.prog 40 #[.pointer (some ⟨g, 0, none⟩)] U9 fun e w' => e = .returned (.string (S LL)) ∧ U9 = w' := string40 w.heap.size g v6 LL U9 hw9 (by have := hlen.out; omega)
  have hE1 := len41 w.heap.size g v6 LL U9 hw9 (by have := hlen.out; omega)
  rw [show ((LL.length : Nat) : Int) = ((S LL).size : Int) from hsz.out] at hE1
  clear hw9 hsz
  generalize S LL = Q at *
  replace hE0 := Lib.hid hE0
  replace hE1 := Lib.hid hE1
  go_wp2_with fail
  (with_reducible refine hE0.out.mono ?_)
  rintro e U ⟨rfl, rfl⟩
  go_wp2_with fail
  (with_reducible refine hE1.out.mono ?_)
  rintro e U ⟨rfl, rfl⟩
  go_wp2_with fail
  (with_reducible refine (string40N _).mono ?_)
  rintro e U ⟨rfl, rfl⟩
  go_wp2_with fail
  (with_reducible refine (len41N _).mono ?_)
  rintro e U ⟨rfl, rfl⟩
  go_wp2_with fail
  (with_reducible refine (string42N _).mono ?_)
  rintro e U ⟨rfl, rfl⟩
  go_wp2_with fail
  (with_reducible refine (len43N _).mono ?_)
  rintro e U ⟨rfl, rfl⟩
  go_wp2_with fail
  (with_reducible refine (hAw.out _).mono ?_)
  rintro e U ⟨rfl, hB⟩
  go_wp2
  go_ret
  exact ⟨rfl, hU9.trans (hB.mono hU9.size)⟩
end Go.Proofs.Ytegkclehijdbiaa.S6
