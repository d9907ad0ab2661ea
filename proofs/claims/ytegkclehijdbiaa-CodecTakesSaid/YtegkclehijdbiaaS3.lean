import Derived.Test.YtegkclehijdbiaaS2
import Derived.Test.YtegkclehijdbiaaOP
set_option linter.unusedVariables false
set_option linter.unusedSimpArgs false
namespace Go.Proofs.Ytegkclehijdbiaa.S3
open Go.RowKit Go.Proofs.Ytegkclehijdbiaa.PCodecTakes Go.Proofs.Ytegkclehijdbiaa.V1 Go.Proofs.Ytegkclehijdbiaa.V3 Go.Proofs.Ytegkclehijdbiaa.CA Go.Proofs.Ytegkclehijdbiaa.CH Go.Proofs.Ytegkclehijdbiaa.PE Go.Proofs.Ytegkclehijdbiaa.PF Go.Proofs.Ytegkclehijdbiaa.PG Go.Proofs.Ytegkclehijdbiaa.PH Go.Proofs.Ytegkclehijdbiaa.S1 Go.Proofs.Ytegkclehijdbiaa.S2 Go.Proofs.Ytegkclehijdbiaa.AW
open Go.Proofs.YtegkclehijdbiaaW.PrintLast hiding takeB
open Go.Proofs.YtegkclehijdbiaaW.PrintWords hiding Ev
set_option maxRecDepth 20000 in
set_option maxHeartbeats 4000000 in
/-- CodecTakes. -/
theorem law (s : ByteArray) (L : Option Addr) (n c : Nat) (as_ : List OP.Ak) (w : World) (hs : s.size ≤ 9223372036854775807) (hl : OP.RdA w L n as_) :
    Calls Try.prog 6 #[.string s, .slice L n c] w fun e w' => e = .returned (.bool true) ∧ Below w.heap.size w w' := by
  have hn := hl.2.1
  by_cases h1 : (3000 : Int) < (s.size : Int)
  · go_enter Try.func6, Try.ntmps6
    go_wp2_with fail
    (with_reducible refine (awake27 w).mono ?_)
    rintro e W1 ⟨rfl, hB⟩
    go_wp2
    go_ret
    exact ⟨rfl, hB⟩
  · by_cases h2 : (60 : Int) < (n : Int)
    · go_enter Try.func6, Try.ntmps6
      go_wp2_with fail
      (with_reducible refine (awake27 w).mono ?_)
      rintro e W1 ⟨rfl, hB⟩
      go_wp2
      go_ret
      exact ⟨rfl, hB⟩
    · have hs2 : s.size ≤ 3000 := by omega
      go_enter Try.func6, Try.ntmps6
      go_wp2_with fail
      (with_reducible refine (awake27 w).mono ?_)
      rintro e W1 ⟨rfl, hB⟩
      have hrd := Lib.hid (read44 s W1 (by omega))
      go_wp2_with fail
      (with_reducible refine hrd.out.mono ?_)
      rintro e W2 ⟨g, rfl, hg, hR, hB2⟩
      have P2 := hB.trans (hB2.mono hB.size)
      have hgl := hR.lt
      have P3 : Below W2.heap.size W2 (W2.alloc (.cells #[.string s, .bool false] 77)) := by go_grown
      have hI : IsS77 w (W2.alloc (.cells #[.string s, .bool false] 77)) W2.heap.size s false := ⟨heap_alloc_new W2 _, P2.size⟩
      have hP : Pt w (W2.alloc (.cells #[.string s, .bool false] 77)) W2.heap.size (some s.data.toList) := ⟨s.data.toList, false, by rw [S_eq]; exact hI, PS.mk1 (by rw [Array.length_toList]; exact Nat.le_trans hs2 (by decide)), P2.trans (P3.mono P2.size)⟩
      have hBo : Bo2 w (W2.alloc (.cells #[.string s, .bool false] 77)) g W2.heap.size (some s.data.toList) := ⟨hR.below P3, hP, hgl, by have := hB.size; omega⟩
      have hlen : ∀ l, some s.data.toList = some l → l.length ≤ 1000000 := fun l e => by cases e; rw [Array.length_toList]; exact Nat.le_trans hs2 (by decide)
      replace hBo := Lib.hid hBo
      replace hlen := Lib.hid hlen
      clear hP hI P3 hrd hR
      go_wp2
      generalize W2.alloc (.cells #[.string s, .bool false] 77) = X at *
      generalize W2.heap.size = pg at *
      go_loopg [7] n (fun kq i wr => ∃ (k : Nat) (st : Option (List UInt8)), i = .int .i64 (k : Int) ∧ k ≤ n ∧ kq = n - k ∧ Bo2 w wr g pg st ∧ (∀ l, st = some l → l.length ≤ 1000000) ∧ Below w.heap.size w wr)
      case atStart => exact ⟨0, _, rfl, by omega, by omega, hBo.out, hlen.out, by obtain ⟨u, b, _, _, h⟩ := hBo.out.p; exact h⟩
      case round =>
        obtain ⟨k, st, rfl, hk, rfl, hb, hle, bel⟩ := hrel
        by_cases hlt : k < n
        · obtain ⟨gl, o, rfl, ⟨c0, c1, c2, hf⟩, q2⟩ := (OP.rdA_below hl bel).at_ hlt
          have q0 : (0 : Int) ≤ (k : Int) := by omega
          have q1 : (k : Int) < (n : Int) := by omega
          have hS := Lib.hid (same45 w g pg _ _ _ st wr hb hle hf.k0 hf.k1 hf.n0 hf.n1 hf.m0 hf.m1)
          have hgw := hb.le
          have hpw := hb.lt
          replace hf := Lib.hid hf
          generalize el as_ k = x at *
          go_wp2_with fail
          (with_reducible refine hS.out.mono ?_)
          rintro e W4 ⟨rfl, ⟨st', hb', hl'⟩, hK⟩
          replace hb' := Lib.hid hb'
          replace hl' := Lib.hid hl'
          clear hS
          go_wp2
          go_roundg (n - (k + 1))
          case measure => omega
          case rel => exact ⟨k + 1, st', by congr 1, by omega, rfl, hb'.out, hl'.out, bel.trans (hK.to_below hgw (by omega) bel.size)⟩
        · obtain rfl : k = n := by omega
          go_wp2
          go_ret
          exact ⟨rfl, bel⟩
end Go.Proofs.Ytegkclehijdbiaa.S3
