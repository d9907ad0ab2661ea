import Derived.Test.YtegkclehijdbiaaMC
import Derived.Test.YtegkclehijdbiaaPTk2
import Derived.Test.YtegkclehijdbiaaMA
set_option linter.unusedSimpArgs false
set_option linter.unusedVariables false
namespace Go.Proofs.Ytegkclehijdbiaa.W1
open Go.RowKit Go.Proofs.YtegkclehijdbiaaW.PrintWords Go.Proofs.Ytegkclehijdbiaa.V1 Go.Proofs.Ytegkclehijdbiaa.V2 Go.Proofs.Ytegkclehijdbiaa.V3 Go.Proofs.Ytegkclehijdbiaa.N1 Go.Proofs.Ytegkclehijdbiaa.N2 Go.Proofs.Ytegkclehijdbiaa.N3 Go.Proofs.Ytegkclehijdbiaa.CA Go.Proofs.Ytegkclehijdbiaa.CB Go.Proofs.Ytegkclehijdbiaa.CC Go.Proofs.Ytegkclehijdbiaa.CD
open Go.Proofs.YtegkclehijdbiaaW.PrintLast hiding takeB

def bV (c : UInt8) : Value := .int .u8 (c.toNat : Int)
/-- A writer at block g that holds bytes l in row v. -/
def Wr (w : World) (base g : Nat) (v : Value) (l : List UInt8) : Prop := w.heap[g]? = some (.cells #[v] 64 (0, 0)) ∧ w.ownsRow base 5 1 v l.length (l.map bV) ∧ base ≤ g
/-- What a writer's method turns. -/
structure KW (g : Nat) (o : Option Nat) (w : World) (o' : Option Nat) (w' : World) : Prop where
  os : w'.os = w.os
  tape : w'.tape = w.tape
  output : w'.output = w.output
  size : w.heap.size ≤ w'.heap.size
  block : ∀ k, k < w.heap.size → k ≠ g → o ≠ some k → w'.heap[k]? = w.heap[k]?
  own : o' = o ∨ ∀ k, o' = some k → w.heap.size ≤ k
theorem KW.refl (g : Nat) (o : Option Nat) (w : World) : KW g o w o w := ⟨rfl, rfl, rfl, Nat.le_refl _, fun _ _ _ _ => rfl, .inl rfl⟩
theorem KW.trans {g : Nat} {o o1 o2 : Option Nat} {a b c : World} (h : KW g o a o1 b) (k : KW g o1 b o2 c) : KW g o a o2 c := by
  refine ⟨k.os.trans h.os, k.tape.trans h.tape, k.output.trans h.output, Nat.le_trans h.size k.size, fun i hi hg ho => ?_, ?_⟩
  · refine (k.block i (Nat.lt_of_lt_of_le hi h.size) hg (fun e => ?_)).trans (h.block i hi hg ho)
    rcases h.own with h1 | h1
    · exact ho (h1 ▸ e)
    · have := h1 i e; omega
  · rcases k.own with h2 | h2
    · rcases h.own with h1 | h1
      · exact .inl (h2.trans h1)
      · exact .inr (fun i e => h1 i (h2 ▸ e))
    · exact .inr (fun i e => Nat.le_trans h.size (h2 i e))
theorem KW.below {g : Nat} {o : Option Nat} {a b : World} (h : Below a.heap.size a b) : KW g o a o b := ⟨h.os, h.tape, h.output, h.size, fun i hi _ _ => h.block i hi, .inl rfl⟩
theorem Wr.below {w w' : World} {base g : Nat} {v : Value} {l : List UInt8} (h : Wr w base g v l) (hb : Below w.heap.size w w') : Wr w' base g v l := by
  obtain ⟨h1, h2, h3⟩ := h
  refine ⟨(hb.block _ (blk_lt h1)).trans h1, ⟨h2.1, h2.2.imp id fun ⟨b, cap, cur, e1, e2, e3, r⟩ => ⟨b, cap, cur, e1, e2, (hb.block b (blk_lt e3)).trans e3, r⟩⟩, h3⟩
theorem KW.to_below {g B : Nat} {o o' : Option Nat} {a b : World} (h : KW g o a o' b) (hg : B ≤ g) (ho : ∀ k, o = some k → B ≤ k) (hB : B ≤ a.heap.size) : Below B a b := ⟨h.os, h.tape, h.output, h.size, fun i hi => h.block i (by omega) (by omega) (fun e => by have := ho i e; omega)⟩
theorem own_form {w : World} {base : Nat} {e : TypeId} {sz n : Nat} {v : Value} {xs : List Value} (h : w.ownsRow base e sz v n xs) : ∃ A m c, v = .slice A m c ∧ m = n ∧ n ≤ c ∧ c ≤ 9223372036854775807 := by
  rcases h.2 with ⟨rfl, h0⟩ | ⟨g', cap, cur, rfl, _, _, h1, h2, _⟩
  · exact ⟨none, 0, 0, rfl, h0.symm, by omega, by omega⟩
  · exact ⟨_, n, cap, rfl, rfl, h1, h2⟩
theorem own_ne {w : World} {B : Nat} {e T : TypeId} {v : Value} {n sz : Nat} {xs : List Value} {b : Nat} {cs : Array Value} {fr : Nat × Nat} (hown : w.ownsRow B e sz v n xs) (hb : w.heap[b]? = some (.cells cs T fr)) (hTe : T ≠ e) : v.ownBlock ≠ some b := by
  intro h
  rcases hown.2 with ⟨rfl, _⟩ | ⟨g', cap, cur, rfl, _, hc, _⟩
  · simp [Value.ownBlock] at h
  · have : g' = b := by simpa [Value.ownBlock] using h
    subst this
    rw [hb] at hc
    simp at hc
    exact hTe hc.2.1
theorem own_set {W : World} {base : Nat} {e : TypeId} {sz n : Nat} {v : Value} {xs : List Value} (h : W.ownsRow base e sz v n xs) {g : Nat} (hne : v.ownBlock ≠ some g) (j : Nat) (u : Value) : (W.setCell ⟨g, j, none⟩ u).ownsRow base e sz v n xs := by
  refine ⟨h.1, h.2.imp id ?_⟩
  rintro ⟨b, cap, cur, rfl, e2, e3, r⟩
  exact ⟨b, cap, cur, rfl, e2, (Below.heap_setCell W ⟨g, j, none⟩ u b (fun e => hne (by show some b = some g; rw [e]))).trans e3, r⟩
/-- What a writer's method leaves. -/
def WrS (w : World) (base g : Nat) (v r : Value) (l : List UInt8) (e : Ending) (w' : World) : Prop := ∃ v', e = .returned r ∧ Wr w' base g v' l ∧ KW g v.ownBlock w v'.ownBlock w'
theorem info5 : (Try.prog.info? 5).map (fun i => (i.zero, i.size, i.bytes)) = some (some (.int .u8 0), 1, 1) := by kernel_rfl
set_option maxRecDepth 8000 in
set_option maxHeartbeats 1000000 in
theorem lay77 (base g : Nat) (v : Value) (l : List UInt8) (ad : Addr) (n c : Nat) (l2 : List UInt8) (w : World) (h : Wr w base g v l) (hn : l2.length = n) (hc : ∀ j u, (l2.map bV)[j]? = some u → w.cell? (ad.add j) = some u) (hl : l.length + n ≤ 100000000) :
    Calls Try.prog 77 #[.pointer (some ⟨g, 0, none⟩), .slice (some ad) n c] w (WrS w base g v (.tuple #[]) (l ++ l2)) := by
  obtain ⟨i0, hi, hzz⟩ := Option.map_eq_some_iff.1 info5
  simp only [Prod.mk.injEq] at hzz
  obtain ⟨hz0, hz1, hz2⟩ := hzz
  obtain ⟨h1, h2, h3⟩ := h
  have f0 : w.cell? ⟨g, 0, none⟩ = some v := (blk_cell h1 0).trans rfl
  have q := blk_frozen h1
  have H1 := Lib.hid h1
  have hne : v.ownBlock ≠ some g := own_ne h2 h1 (by decide)
  have hbs : base ≤ w.heap.size := by have := blk_lt h1; omega
  have hlt := own_lt h2
  clear h1
  go_enter Try.func77, Try.ntmps77
  go_wp2_with (at_builtin; refine wpList_append_own_at w rfl (.tmp 8) (.tmp 9) 60 rfl base 5 i0 (.int .u8 0) 1 1 Try.underlying60 hi hz0 hz1 hz2 rfl (by omega) v l.length (l.map bV) rfl h2 ad n c (l2.map bV) rfl (by simp [hn]) hc (by intro u hu; simp only [List.mem_map] at hu; obtain ⟨x, _, rfl⟩ := hu; rfl) (by simp only [maxLen]; omega) (by omega) hbs ?_; intro v1 w1 hown1 hg1 _ hob; have f1 : w1.cell? ⟨g, 0, none⟩ = some v := hg1.cell f0 (fun e => hne e.symm); have q1 := blk_frozen ((hg1.block g (blk_lt H1.out) (fun e => hne e.symm)).trans H1.out); obtain ⟨A1, n1, c1, rfl, _, _, _⟩ := own_form hown1)
  rename_i z1 z2 z3
  subst z1
  have hg : g < w.heap.size := blk_lt H1.out
  have hne1 : (Value.slice A1 (l.length + n) c1).ownBlock ≠ some g := by
    rcases hob with h | h
    · rw [h]; exact hne
    · rw [h]; intro e; injection e with e; omega
  go_end0
  refine ⟨_, rfl, ⟨blk_put ((hg1.block g hg (fun e => hne e.symm)).trans H1.out) 0 _ rfl, ?_, h3⟩, hg1.os, hg1.tape, hg1.output, by simpa [World.setCell] using hg1.size, fun k hk hkg hko => (Below.heap_setCell w1 ⟨g, 0, none⟩ _ k hkg).trans (hg1.block k hk (fun e => hko e.symm)), ?_⟩
  · have := own_set hown1 hne1 0 (Value.slice A1 (l.length + n) c1)
    rw [List.map_append, List.length_append, hn]
    exact this
  · rcases hob with h | h
    · exact .inl h
    · exact .inr fun k e => by rw [h] at e; injection e with e; omega
/-- One byte laid. -/
theorem lay1 (base g : Nat) (v : Value) (l : List UInt8) (c : Nat) (x : UInt8) (w : World) (h : Wr w base g v l) (hl : l.length < 100000000) :
    Calls Try.prog 77 #[.pointer (some ⟨g, 0, none⟩), .slice (some ⟨w.heap.size, 0, none⟩) 1 c] (w.alloc (.cells #[.int .u8 (x.toNat : Int)] 5)) (WrS w base g v (.tuple #[]) (l ++ [x])) := by
  have P2 : Below w.heap.size w (w.alloc (.cells #[.int .u8 (x.toNat : Int)] 5)) := by go_grown
  refine (lay77 base g v l ⟨w.heap.size, 0, none⟩ 1 c [x] _ (h.below P2) rfl (fun j u hu => ?_) (by omega)).mono ?_
  · have e2 : (w.alloc (.cells #[.int .u8 (x.toNat : Int)] 5)).heap[w.heap.size]? = some (.cells #[.int .u8 (x.toNat : Int)] 5 (0, 0)) := heap_alloc_new w _
    rw [add_plain, blk_cell e2]
    simpa [bV] using hu
  · rintro e w' ⟨v', rfl, h1, h2⟩
    exact ⟨v', rfl, h1, (KW.below P2).trans h2⟩
theorem shr_ne (n k : Nat) : ((n : Int) / 2 ^ (8 * k) != 0) = decide (k < sz n) := by
  have h := sz_le k n
  have e : (2 : Int) ^ (8 * k) = ((256 ^ k : Nat) : Int) := by
    rw [Int.natCast_pow, Int.pow_mul]; rfl
  rw [e, ← Int.natCast_ediv]
  by_cases hk : k < sz n
  · have : n / 256 ^ k ≠ 0 := fun e => by have := h.1 e; omega
    simp only [hk, decide_true, bne_iff_ne, ne_eq]
    omega
  · have : n / 256 ^ k = 0 := h.2 (by omega)
    simp [hk, this]
theorem shr_u8 (n k : Nat) : (n : Int) / 2 ^ (8 * k) % 256 = ((UInt8.ofNat (n / 256 ^ k)).toNat : Int) := by
  have e : (2 : Int) ^ (8 * k) = ((256 ^ k : Nat) : Int) := by
    rw [Int.natCast_pow, Int.pow_mul]; rfl
  rw [e, ← Int.natCast_ediv, UInt8.toNat_ofNat']
  omega
/-- The second loop of number. -/
def NbL (w : World) (base g : Nat) (v : Value) (n : Nat) (L : List UInt8) (j : Nat) (i : Value) (wr : World) : Prop := ∃ v' l', i = .int .i64 ((j : Int) - 1) ∧ j ≤ 8 ∧ l' ++ cat j n = L ∧ l'.length + j ≤ 20000000 ∧ Wr wr base g v' l' ∧ KW g v.ownBlock w v'.ownBlock wr
set_option maxRecDepth 8000 in
set_option maxHeartbeats 1000000 in
theorem number76 (base g : Nat) (v : Value) (l : List UInt8) (n : Nat) (w : World) (h : Wr w base g v l) (hn : n < 18446744073709551616) (hl : l.length ≤ 10000000) :
    Calls Try.prog 76 #[.pointer (some ⟨g, 0, none⟩), .int .u64 (n : Int)] w (WrS w base g v (.tuple #[]) (l ++ num n)) := by
  have h8 := sz_8 hn
  have H := Lib.hid h
  have n0 : (0 : Int) ≤ (n : Int) := by omega
  have n1 : (n : Int) ≤ 18446744073709551615 := by omega
  have hN := Lib.hid (show num n = UInt8.ofNat (sz n) :: cat (sz n) n from rfl)
  generalize num n = N at *
  go_enter Try.func76, Try.ntmps76
  go_wp2
  go_loopw [4] (fun i wr => ∃ k : Nat, i = .int .i64 (k : Int) ∧ k ≤ sz n ∧ wr = w) (fun i _ => sz n - (intOf i).toNat)
  case atStart => exact ⟨0, rfl, by omega, rfl⟩
  case round =>
    obtain ⟨k, rfl, hk, rfl⟩ := hrel
    have hb := shr_ne n k
    by_cases hlt : k < sz n
    · have c1 : (k : Int) < 8 := by omega
      rw [decide_eq_true hlt] at hb
      go_wp2
      go_roundw
      case rel => exact ⟨k + 1, by congr 1, by omega, by first | rfl | trivial⟩
      case measure => simp [intOf]; omega
    · rw [decide_eq_false hlt] at hb
      obtain rfl : k = sz n := by omega
      have hL := lay1 base g v l 1 (UInt8.ofNat (sz n)) wr h (by omega)
      have e1 : ((UInt8.ofNat (sz n)).toNat : Int) = (sz n : Int) := by rw [UInt8.toNat_ofNat']; omega
      rw [e1] at hL
      have hL := Lib.hid hL
      generalize hkk : sz n = k at *
      by_cases c1 : (k : Int) < 8
      · go_wp2_with fail
        (with_reducible refine hL.out.mono ?_)
        rintro e W2 ⟨v', rfl, hw2, hk2⟩
        replace hw2 := Lib.hid hw2
        go_wp2
        go_loopg [5] k (fun j i wr2 => NbL wr base g v n (l ++ N) j i wr2)
        case atStart => exact ⟨v', l ++ [UInt8.ofNat k], rfl, h8, by rw [hN.out]; simp, by simp; omega, hw2.out, hk2⟩
        case round =>
          obtain ⟨v2, l2, rfl, hj, he, hl2, hw, hkw⟩ := hrel
          replace he := Lib.hid he
          replace hw := Lib.hid hw
          cases gk with
          | zero =>
            rw [show (((0 : Nat) : Int) - 1) = -1 by omega]
            go_wp2
            go_end0
            refine ⟨v2, rfl, ?_, hkw⟩
            have := he.out
            simp only [cat, List.append_nil] at this
            rw [← this]; exact hw.out
          | succ j =>
            rw [show (((j + 1 : Nat) : Int) - 1) = (j : Int) by omega]
            have q0 : (0 : Int) ≤ (j : Int) := by omega
            have hL2 := lay1 base g v2 l2 1 (UInt8.ofNat (n / 256 ^ j)) wr hw.out (by omega)
            rw [← shr_u8] at hL2
            replace hL2 := Lib.hid hL2
            go_wp2_with fail
            (with_reducible refine hL2.out.mono ?_)
            rintro e W3 ⟨v3, rfl, hw3, hk3⟩
            replace hw3 := Lib.hid hw3
            go_wp2
            go_roundg j
            case measure => omega
            case rel => exact ⟨v3, l2 ++ [UInt8.ofNat (n / 256 ^ j)], rfl, by omega, by have := he.out; rw [cat] at this; simpa using this, by simp; omega, hw3.out, hkw.trans hk3⟩
      · go_wp2_with fail
        (with_reducible refine hL.out.mono ?_)
        rintro e W2 ⟨v', rfl, hw2, hk2⟩
        replace hw2 := Lib.hid hw2
        go_wp2
        go_loopg [5] k (fun j i wr2 => NbL wr base g v n (l ++ N) j i wr2)
        case atStart => exact ⟨v', l ++ [UInt8.ofNat k], rfl, h8, by rw [hN.out]; simp, by simp; omega, hw2.out, hk2⟩
        case round =>
          obtain ⟨v2, l2, rfl, hj, he, hl2, hw, hkw⟩ := hrel
          replace he := Lib.hid he
          replace hw := Lib.hid hw
          cases gk with
          | zero =>
            rw [show (((0 : Nat) : Int) - 1) = -1 by omega]
            go_wp2
            go_end0
            refine ⟨v2, rfl, ?_, hkw⟩
            have := he.out
            simp only [cat, List.append_nil] at this
            rw [← this]; exact hw.out
          | succ j =>
            rw [show (((j + 1 : Nat) : Int) - 1) = (j : Int) by omega]
            have q0 : (0 : Int) ≤ (j : Int) := by omega
            have hL2 := lay1 base g v2 l2 1 (UInt8.ofNat (n / 256 ^ j)) wr hw.out (by omega)
            rw [← shr_u8] at hL2
            replace hL2 := Lib.hid hL2
            go_wp2_with fail
            (with_reducible refine hL2.out.mono ?_)
            rintro e W3 ⟨v3, rfl, hw3, hk3⟩
            replace hw3 := Lib.hid hw3
            go_wp2
            go_roundg j
            case measure => omega
            case rel => exact ⟨v3, l2 ++ [UInt8.ofNat (n / 256 ^ j)], rfl, by omega, by have := he.out; rw [cat] at this; simpa using this, by simp; omega, hw3.out, hkw.trans hk3⟩
end Go.Proofs.Ytegkclehijdbiaa.W1

set_option linter.unusedSimpArgs false
set_option linter.unusedVariables false
namespace Go.Proofs.Ytegkclehijdbiaa.W2
open Go.RowKit Go.Proofs.YtegkclehijdbiaaW.PrintWords Go.Proofs.Ytegkclehijdbiaa.V1 Go.Proofs.Ytegkclehijdbiaa.V2 Go.Proofs.Ytegkclehijdbiaa.V3 Go.Proofs.Ytegkclehijdbiaa.N1 Go.Proofs.Ytegkclehijdbiaa.N2 Go.Proofs.Ytegkclehijdbiaa.N3 Go.Proofs.Ytegkclehijdbiaa.CA Go.Proofs.Ytegkclehijdbiaa.CB Go.Proofs.Ytegkclehijdbiaa.CC Go.Proofs.Ytegkclehijdbiaa.CD Go.Proofs.Ytegkclehijdbiaa.W1
open Go.Proofs.YtegkclehijdbiaaW.PrintLast hiding takeB

/-- A block that the writer does not turn. -/
def Out (w : World) (g : Nat) (o : Option Nat) (b : Nat) : Prop := b < w.heap.size ∧ b ≠ g ∧ o ≠ some b
theorem Out.kw {w w' : World} {g b : Nat} {o o' : Option Nat} (h : Out w g o b) (k : KW g o w o' w') : Out w' g o' b := by
  refine ⟨Nat.lt_of_lt_of_le h.1 k.size, h.2.1, fun e => ?_⟩
  rcases k.own with h1 | h1
  · exact h.2.2 (h1 ▸ e)
  · have := h1 b e; have := h.1; omega
theorem Out.heap {w w' : World} {g b : Nat} {o o' : Option Nat} (h : Out w g o b) (k : KW g o w o' w') : w'.heap[b]? = w.heap[b]? := k.block b h.1 h.2.1 h.2.2
theorem Out.new {w w' : World} {g : Nat} {o : Option Nat} (hg : g < w.heap.size) (ho : ∀ k, o = some k → k < w.heap.size) {b : Nat} (hb : w.heap.size ≤ b) (h1 : b < w'.heap.size) : Out w' g o b := ⟨h1, by omega, fun e => by have := ho b e; omega⟩
/-- What lies where the writer does not turn it. -/
def OutA (w : World) (g : Nat) (o : Option Nat) (A : Option Addr) (n : Nat) : Prop := 0 < n → ∀ ad, A = some ad → Out w g o ad.block
theorem OutA.kw {w w' : World} {g n : Nat} {A : Option Addr} {o o' : Option Nat} (h : OutA w g o A n) (k : KW g o w o' w') : OutA w' g o' A n := fun hn ad e => (h hn ad e).kw k
theorem rd_kw {α : Type} [Inhabited α] {sz : Nat} {P : World → Nat → Nat → α → Prop} (hP : ∀ {w w' : World} {g o : Nat} {a : α}, P w g o a → w'.heap[g]? = w.heap[g]? → P w' g o a) {w w' : World} {g n : Nat} {A : Option Addr} {l : List α} {o o' : Option Nat} (h : Rd sz P w A n l) (hA : OutA w g o A n) (k : KW g o w o' w') : Rd sz P w' A n l := by
  refine ⟨h.1, h.2.1, fun hn => ?_⟩
  obtain ⟨b, i, e, hc⟩ := h.2.2 hn
  exact ⟨b, i, e, fun j hj => hP (hc j hj) ((hA hn _ e).heap k)⟩
theorem cell_heap {w w' : World} {g j : Nat} {v : Value} (h : w.cell? ⟨g, j, none⟩ = some v) (e : w'.heap[g]? = w.heap[g]?) : w'.cell? ⟨g, j, none⟩ = some v := by unfold World.cell? at h ⊢; rw [e]; exact h
def atN (w : World) (g o : Nat) (n : Int) : Prop := w.cell? ⟨g, o, none⟩ = some (.int .i64 n) ∧ -9223372036854775808 ≤ n ∧ n ≤ 9223372036854775807
theorem atN.kw {w w' : World} {g o : Nat} {a : Int} (h : atN w g o a) (e : w'.heap[g]? = w.heap[g]?) : atN w' g o a := ⟨cell_heap h.1 e, h.2⟩
abbrev RdN := Rd 1 atN
def atT (w : World) (g o : Nat) (s : ByteArray) : Prop := w.cell? ⟨g, o, none⟩ = some (.string s) ∧ s.size ≤ 9223372036854775807
theorem atT.kw {w w' : World} {g o : Nat} {a : ByteArray} (h : atT w g o a) (e : w'.heap[g]? = w.heap[g]?) : atT w' g o a := ⟨cell_heap h.1 e, h.2⟩
abbrev RdT := Rd 1 atT
theorem atV.kw {w w' : World} {g o : Nat} {a : Vl} (h : atV w g o a) (e : w'.heap[g]? = w.heap[g]?) : atV w' g o a := ⟨cell_heap h.1 e, cell_heap h.2.1 e, cell_heap h.2.2.1 e, h.2.2.2⟩
theorem take_flat {α β : Type} [Inhabited α] (f : α → List β) (l : List α) (k : Nat) (h : k < l.length) : (l.take (k + 1)).flatMap f = (l.take k).flatMap f ++ f (el l k) := by
  rw [List.take_succ_eq_append_getElem h, List.flatMap_append]
  have : el l k = l[k] := by simp [el, List.getD, h]
  rw [this]; simp
theorem num_len (n : Nat) (h : n < 18446744073709551616) : (num n).length ≤ 9 := by
  have := sz_8 h
  simp [num, cat_len]; omega
theorem flat_le {α : Type} (f : α → List UInt8) (b : Nat) : ∀ (l : List α), (∀ x ∈ l, (f x).length ≤ b) → (l.flatMap f).length ≤ b * l.length
  | [], _ => by simp
  | x :: l, h => by
    have h1 := h x (by simp)
    have h2 := flat_le f b l (fun y hy => h y (by simp [hy]))
    rw [List.flatMap_cons, List.length_append, List.length_cons, Nat.mul_succ]
    omega
theorem rd_mem {α : Type} [Inhabited α] {sz : Nat} {P : World → Nat → Nat → α → Prop} {w : World} {n : Nat} {A : Option Addr} {l : List α} (h : Rd sz P w A n l) (Q : α → Prop) (hQ : ∀ g o a, P w g o a → Q a) : ∀ x ∈ l, Q x := by
  intro x hx
  obtain ⟨i, hi, rfl⟩ := List.mem_iff_getElem.1 hx
  obtain ⟨b, o, _, hc⟩ := h.2.2 (by have := h.1; omega)
  have := hQ _ _ _ (hc i (by have := h.1; omega))
  have e : el l i = l[i] := by simp [el, List.getD, hi]
  rwa [e] at this
theorem take_le {α : Type} (f : α → List UInt8) (b : Nat) (l : List α) (h : ∀ x ∈ l, (f x).length ≤ b) (k : Nat) : ((l.take k).flatMap f).length ≤ b * k := by
  have h1 := flat_le f b (l.take k) (fun x hx => h x (List.mem_of_mem_take hx))
  have h2 : (l.take k).length ≤ k := by rw [List.length_take]; omega
  exact Nat.le_trans h1 (Nat.mul_le_mul_left b h2)
theorem encS_len {n : Int} (h0 : -9223372036854775808 ≤ n) (h1 : n ≤ 9223372036854775807) : (encS n).length ≤ 9 := num_len _ (by omega)
theorem encI_len {n : Int} (h0 : -9223372036854775808 ≤ n) (h1 : n ≤ 9223372036854775807) : (encI n).length ≤ 9 := num_len _ (zag_lt h0 h1)
/-- A loop over what is laid. -/
def LpW {α : Type} (w : World) (base g : Nat) (v : Value) (l : List UInt8) (f : α → List UInt8) (xs : List α) (n : Nat) (kq : Nat) (i : Value) (wr : World) : Prop :=
  ∃ (v' : Value) (k : Nat), i = .int .i64 (k : Int) ∧ k ≤ n ∧ kq = n - k ∧ Wr wr base g v' (l ++ (xs.take k).flatMap f) ∧ KW g v.ownBlock w v'.ownBlock wr
theorem LpW.start {α : Type} {w : World} {base g : Nat} {v : Value} {l : List UInt8} {f : α → List UInt8} {xs : List α} {n : Nat} (h : Wr w base g v l) : LpW w base g v l f xs n n (.int .i64 0) w := ⟨v, 0, rfl, by omega, by omega, by simpa using h, KW.refl _ _ _⟩
set_option maxRecDepth 8000 in
set_option maxHeartbeats 1000000 in
theorem size34 (base g : Nat) (v : Value) (l : List UInt8) (A : Option Addr) (n c : Nat) (ns : List Int) (w : World) (h : Wr w base g v l) (hr : RdN w A n ns) (hA : OutA w g v.ownBlock A n) (hn : n ≤ 100000) (hl : l.length ≤ 9000000) :
    Calls Try.prog 34 #[.pointer (some ⟨g, 0, none⟩), .slice A n c] w (WrS w base g v (.pointer (some ⟨g, 0, none⟩)) (l ++ ns.flatMap encS)) := by
  have hr := Lib.hid hr
  have hA := Lib.hid hA
  have H := Lib.hid h
  have hlen : ∀ k, k ≤ n → (l ++ (ns.take k).flatMap encS).length ≤ 9000000 + 9 * k := by
    intro k _
    have := take_le encS 9 ns (rd_mem hr.out (fun x => (encS x).length ≤ 9) (fun g o a ha => encS_len ha.2.1 ha.2.2)) k
    rw [List.length_append]; omega
  have hlen := Lib.hid hlen
  have hns : Hid (ns.take n = ns) := List.take_of_length_le (by rw [hr.out.1]; exact Nat.le_refl _)
  go_enter Try.func34, Try.ntmps34
  go_wp2
  go_loopg [9] n (fun kq i wr => LpW w base g v l encS ns n kq i wr)
  case atStart => exact LpW.start H.out
  case round =>
    obtain ⟨v', k, rfl, hk, rfl, hw, hkw⟩ := hrel
    replace hw := Lib.hid hw
    by_cases hlt : k < n
    · have rk := rd_kw (P := atN) atN.kw hr.out hA.out hkw
      obtain ⟨b, o, rfl, ⟨c0, y0, y1⟩, q2⟩ := rk.at_ hlt
      have q0 : (0 : Int) ≤ (k : Int) := by omega
      have q1 : (k : Int) < (n : Int) := by omega
      rw [Nat.mul_one] at c0 q2
      have hst := Lib.hid (take_flat encS ns k (by rw [hr.out.1]; exact hlt))
      have hN := number76 base g v' _ (el ns k).toNat wr hw.out (by omega) (by have := hlen.out k hk; omega)
      have hfin : Hid (∀ v2 W2, Wr W2 base g v2 (l ++ (ns.take k).flatMap encS ++ num (el ns k).toNat) → Wr W2 base g v2 (l ++ (ns.take (k + 1)).flatMap encS)) := by
        intro v2 W2 h2
        rw [hst.out, ← List.append_assoc]; exact h2
      generalize num (el ns k).toNat = Q at *
      clear hst
      by_cases hneg : el ns k < 0
      · rw [show (((el ns k).toNat : Nat) : Int) = 0 by omega] at hN
        replace hN := Lib.hid hN
        go_wp2_with fail
        (with_reducible refine hN.out.mono ?_)
        rintro e W2 ⟨v2, rfl, hw2, hk2⟩
        replace hw2 := Lib.hid (hfin.out _ _ hw2)
        clear hN
        go_wp2
        go_roundg (n - (k + 1))
        case measure => omega
        case rel => exact ⟨v2, k + 1, by congr 1, by omega, rfl, hw2.out, hkw.trans hk2⟩
      · rw [show (((el ns k).toNat : Nat) : Int) = el ns k by omega] at hN
        replace hN := Lib.hid hN
        go_wp2_with fail
        (with_reducible refine hN.out.mono ?_)
        rintro e W2 ⟨v2, rfl, hw2, hk2⟩
        replace hw2 := Lib.hid (hfin.out _ _ hw2)
        clear hN
        go_wp2
        go_roundg (n - (k + 1))
        case measure => omega
        case rel => exact ⟨v2, k + 1, by congr 1, by omega, rfl, hw2.out, hkw.trans hk2⟩
    · obtain rfl : k = n := by omega
      go_wp2
      go_ret
      rw [hns.out] at hw
      exact ⟨v', rfl, hw.out, hkw⟩
end Go.Proofs.Ytegkclehijdbiaa.W2

set_option linter.unusedSimpArgs false
set_option linter.unusedVariables false
namespace Go.Proofs.Ytegkclehijdbiaa.W3
open Go.RowKit Go.Proofs.YtegkclehijdbiaaW.PrintWords Go.Proofs.Ytegkclehijdbiaa.V1 Go.Proofs.Ytegkclehijdbiaa.V2 Go.Proofs.Ytegkclehijdbiaa.V3 Go.Proofs.Ytegkclehijdbiaa.N1 Go.Proofs.Ytegkclehijdbiaa.N2 Go.Proofs.Ytegkclehijdbiaa.N3 Go.Proofs.Ytegkclehijdbiaa.CA Go.Proofs.Ytegkclehijdbiaa.CB Go.Proofs.Ytegkclehijdbiaa.CC Go.Proofs.Ytegkclehijdbiaa.CD Go.Proofs.Ytegkclehijdbiaa.W1 Go.Proofs.Ytegkclehijdbiaa.W2
open Go.Proofs.YtegkclehijdbiaaW.PrintLast hiding takeB

theorem xorU0 (n : Nat) (h : n < 18446744073709551616) : bits .xor .u64 (n : Int) 0 = (n : Int) := by
  show IntKind.u64.wrap ((BitVec.ofInt 64 (n : Int) ^^^ BitVec.ofInt 64 0).toNat : Int) = _
  have e : BitVec.ofInt 64 0 = 0#64 := by decide
  rw [e, BitVec.xor_zero, BitVec.ofInt_natCast, BitVec.toNat_ofNat, Nat.mod_eq_of_lt (by omega), IntKind.wrap_u64]
  omega
theorem xorU1 (n : Nat) (h : n < 18446744073709551616) : bits .xor .u64 (n : Int) 18446744073709551615 = ((18446744073709551615 - n : Nat) : Int) := by
  show IntKind.u64.wrap ((BitVec.ofInt 64 (n : Int) ^^^ BitVec.ofInt 64 18446744073709551615).toNat : Int) = _
  have e : BitVec.ofInt 64 18446744073709551615 = BitVec.allOnes 64 := by decide
  rw [e, BitVec.xor_allOnes, BitVec.toNat_not, BitVec.ofInt_natCast, BitVec.toNat_ofNat, Nat.mod_eq_of_lt (by omega), IntKind.wrap_u64]
  omega
set_option maxRecDepth 8000 in
set_option maxHeartbeats 1000000 in
theorem signed35 (base g : Nat) (v : Value) (l : List UInt8) (A : Option Addr) (n c : Nat) (ns : List Int) (w : World) (h : Wr w base g v l) (hr : RdN w A n ns) (hA : OutA w g v.ownBlock A n) (hn : n ≤ 100000) (hl : l.length ≤ 9000000) :
    Calls Try.prog 35 #[.pointer (some ⟨g, 0, none⟩), .slice A n c] w (WrS w base g v (.pointer (some ⟨g, 0, none⟩)) (l ++ ns.flatMap encI)) := by
  replace hr := Lib.hid hr
  replace hA := Lib.hid hA
  have H := Lib.hid h
  have hlen : ∀ k, k ≤ n → (l ++ (ns.take k).flatMap encI).length ≤ 9000000 + 9 * k := by
    intro k _
    have := take_le encI 9 ns (rd_mem hr.out (fun x => (encI x).length ≤ 9) (fun g o a ha => encI_len ha.2.1 ha.2.2)) k
    rw [List.length_append]; omega
  replace hlen := Lib.hid hlen
  have hns : Hid (ns.take n = ns) := List.take_of_length_le (by rw [hr.out.1]; exact Nat.le_refl _)
  go_enter Try.func35, Try.ntmps35
  go_wp2
  go_loopg [9] n (fun kq i wr => LpW w base g v l encI ns n kq i wr)
  case atStart => exact LpW.start H.out
  case round =>
    obtain ⟨v', k, rfl, hk, rfl, hw, hkw⟩ := hrel
    replace hw := Lib.hid hw
    by_cases hlt : k < n
    · have rk := rd_kw (P := atN) atN.kw hr.out hA.out hkw
      obtain ⟨b, o, rfl, ⟨c0, y0, y1⟩, q2⟩ := rk.at_ hlt
      have q0 : (0 : Int) ≤ (k : Int) := by omega
      have q1 : (k : Int) < (n : Int) := by omega
      rw [Nat.mul_one] at c0 q2
      have hst := Lib.hid (take_flat encI ns k (by rw [hr.out.1]; exact hlt))
      have hN := number76 base g v' _ (zag (el ns k)) wr hw.out (zag_lt y0 y1) (by have := hlen.out k hk; omega)
      have hfin : Hid (∀ v2 W2, Wr W2 base g v2 (l ++ (ns.take k).flatMap encI ++ num (zag (el ns k))) → Wr W2 base g v2 (l ++ (ns.take (k + 1)).flatMap encI)) := by
        intro v2 W2 h2
        rw [hst.out, ← List.append_assoc]; exact h2
      generalize num (zag (el ns k)) = Q at *
      clear hst
      generalize el ns k = x at *
      by_cases hneg : x < 0
      · have e1 : IntKind.u64.wrap x = x + 18446744073709551616 := by rw [IntKind.wrap_u64]; omega
        have e2 : x / 9223372036854775808 = -1 := by omega
        have hZ : bits .xor .u64 (IntKind.u64.wrap ((x + 18446744073709551616) * 2)) (IntKind.u64.wrap (-1)) = ((zag x : Nat) : Int) := by
          have e4 : IntKind.u64.wrap ((x + 18446744073709551616) * 2) = (((2 * x + 18446744073709551616).toNat : Nat) : Int) := by rw [IntKind.wrap_u64]; omega
          have e5 : IntKind.u64.wrap (-1) = 18446744073709551615 := by rw [IntKind.wrap_u64]; omega
          rw [e4, e5, xorU1 _ (by omega)]
          unfold zag; rw [if_pos hneg]; omega
        rw [← hZ] at hN
        replace hN := Lib.hid hN
        clear hZ
        go_wp2_with fail
        (with_reducible refine hN.out.mono ?_)
        rintro e W2 ⟨v2, rfl, hw2, hk2⟩
        replace hw2 := Lib.hid (hfin.out _ _ hw2)
        clear hN
        go_wp2
        go_roundg (n - (k + 1))
        case measure => omega
        case rel => exact ⟨v2, k + 1, by congr 1, by omega, rfl, hw2.out, hkw.trans hk2⟩
      · have e1 : IntKind.u64.wrap x = x := by rw [IntKind.wrap_u64]; omega
        have e2 : x / 9223372036854775808 = 0 := by omega
        have hZ : bits .xor .u64 (x * 2) 0 = ((zag x : Nat) : Int) := by
          have e4 : x * 2 = (((2 * x).toNat : Nat) : Int) := by omega
          rw [e4, xorU0 _ (by omega)]
          unfold zag; rw [if_neg hneg]; omega
        rw [← hZ] at hN
        replace hN := Lib.hid hN
        clear hZ
        go_wp2_with fail
        (with_reducible refine hN.out.mono ?_)
        rintro e W2 ⟨v2, rfl, hw2, hk2⟩
        replace hw2 := Lib.hid (hfin.out _ _ hw2)
        clear hN
        go_wp2
        go_roundg (n - (k + 1))
        case measure => omega
        case rel => exact ⟨v2, k + 1, by congr 1, by omega, rfl, hw2.out, hkw.trans hk2⟩
    · obtain rfl : k = n := by omega
      go_wp2
      go_ret
      rw [hns.out] at hw
      exact ⟨v', rfl, hw.out, hkw⟩
theorem encT_len {s : ByteArray} (h1 : s.size ≤ 9223372036854775807) : (encT s).length ≤ 9 + s.size := by
  have := num_len s.size (by omega)
  have e : s.data.size = s.size := rfl
  simp only [encT, List.length_append, Array.length_toList]
  omega
/-- A text laid. -/
theorem laid_text (base g : Nat) (v : Value) (l : List UInt8) (s : ByteArray) (w : World) (h : Wr w base g v l) (hl : l.length + s.size ≤ 100000000) :
    Calls Try.prog 77 #[.pointer (some ⟨g, 0, none⟩), .slice (some ⟨w.heap.size, 0, none⟩) s.size (grownCap w s.size 0 5)] (Lib.bytesWorld w 5 s) (WrS w base g v (.tuple #[]) (l ++ s.data.toList)) := by
  have hB0 := bytes_below (Below.refl w.heap.size w) (Nat.le_refl _) 5 s
  refine (lay77 base g v l ⟨w.heap.size, 0, none⟩ s.size _ s.data.toList _ (h.below hB0) Array.length_toList (fun j u hu => ?_) hl).mono ?_
  · have hj : j < s.size := by
      rcases Nat.lt_or_ge j (s.data.toList.map bV).length with h1 | h1
      · simpa using h1
      · rw [List.getElem?_eq_none h1] at hu; cases hu
    rw [add_plain, Lib.bytesWorld_cell w 5 s j hj]
    have h' : j < s.data.toList.length := by rw [data_length]; exact hj
    rw [List.getElem?_map, List.getElem?_eq_getElem h'] at hu
    simp only [Option.map_some, Option.some.injEq] at hu
    rw [← hu]
    rw [bV, List.getD_eq_getElem?_getD, List.getElem?_eq_getElem h']; rfl
  · rintro e w' ⟨v', rfl, h1, h2⟩
    exact ⟨v', rfl, h1, (KW.below hB0).trans h2⟩
set_option maxRecDepth 8000 in
set_option maxHeartbeats 1000000 in
theorem text36 (base g : Nat) (v : Value) (l : List UInt8) (A : Option Addr) (n c : Nat) (ns : List ByteArray) (w : World) (h : Wr w base g v l) (hr : RdT w A n ns) (hA : OutA w g v.ownBlock A n) (hl : ∀ k, k ≤ n → (l ++ (ns.take k).flatMap encT).length ≤ 9000000) :
    Calls Try.prog 36 #[.pointer (some ⟨g, 0, none⟩), .slice A n c] w (WrS w base g v (.pointer (some ⟨g, 0, none⟩)) (l ++ ns.flatMap encT)) := by
  replace hr := Lib.hid hr
  replace hA := Lib.hid hA
  replace hl := Lib.hid hl
  have hnb : n ≤ 9223372036854775807 := hr.out.2.1
  have H := Lib.hid h
  have hns : Hid (ns.take n = ns) := List.take_of_length_le (by rw [hr.out.1]; exact Nat.le_refl _)
  go_enter Try.func36, Try.ntmps36
  go_wp2
  go_loopg [9] n (fun kq i wr => LpW w base g v l encT ns n kq i wr)
  case atStart => exact LpW.start H.out
  case round =>
    obtain ⟨v', k, rfl, hk, rfl, hw, hkw⟩ := hrel
    replace hw := Lib.hid hw
    by_cases hlt : k < n
    · have rk := rd_kw (P := atT) atT.kw hr.out hA.out hkw
      obtain ⟨b, o, rfl, ⟨c0, y0⟩, q2⟩ := rk.at_ hlt
      have q0 : (0 : Int) ≤ (k : Int) := by omega
      have q1 : (k : Int) < (n : Int) := by omega
      rw [Nat.mul_one] at c0 q2
      have hst := Lib.hid (take_flat encT ns k (by rw [hr.out.1]; exact hlt))
      have hb1 : (l ++ (ns.take k).flatMap encT).length ≤ 9000000 := hl.out k (by omega)
      have hb2 : (l ++ (ns.take k).flatMap encT).length + (num (el ns k).size).length + (el ns k).size ≤ 9000000 := by
        have := hl.out (k + 1) (by omega)
        have e3 : (encT (el ns k)).length = (num (el ns k).size).length + (el ns k).size := by
          simp only [encT, List.length_append, Array.length_toList]; rfl
        rw [hst.out, ← List.append_assoc, List.length_append, e3] at this
        omega
      have hN := Lib.hid (number76 base g v' _ (el ns k).size wr hw.out (by omega) (by omega))
      have hfin : Hid (∀ v2 W2, Wr W2 base g v2 (l ++ (ns.take k).flatMap encT ++ num (el ns k).size ++ (el ns k).data.toList) → Wr W2 base g v2 (l ++ (ns.take (k + 1)).flatMap encT)) := by
        intro v2 W2 h2
        rw [hst.out]; unfold encT at h2 ⊢; simpa using h2
      have kb := fun W => print_bytes (P := Try.prog) 9 60 5 Try.underlying9 Try.underlying60 Try.underlying5 (el ns k) W
      replace hb2 := Lib.hid hb2
      generalize num (el ns k).size = Q at *
      clear hst
      generalize el ns k = x at *
      have e1 : IntKind.u64.wrap (x.size : Int) = (x.size : Int) := by rw [IntKind.wrap_u64]; omega
      go_wp2_with fail
      (with_reducible refine hN.out.mono ?_)
      rintro e W2 ⟨v2, rfl, hw2, hk2⟩
      replace hw2 := Lib.hid hw2
      have hT := Lib.hid (laid_text base g v2 _ x W2 hw2.out (by have := hb2.out; rw [List.length_append]; omega))
      clear hN
      go_wp2_with fail
      (with_reducible refine hT.out.mono ?_)
      rintro e W3 ⟨v3, rfl, hw3, hk3⟩
      replace hw3 := Lib.hid (hfin.out _ _ hw3)
      clear hT kb
      go_wp2
      go_roundg (n - (k + 1))
      case measure => omega
      case rel => exact ⟨v3, k + 1, by congr 1, by omega, rfl, hw3.out, (hkw.trans hk2).trans hk3⟩
    · obtain rfl : k = n := by omega
      go_wp2
      go_ret
      rw [hns.out] at hw
      exact ⟨v', rfl, hw.out, hkw⟩
/-- Bytes in a writer's row. -/
theorem wr_reads {w : World} {base g : Nat} {v : Value} {l : List UInt8} (h : Wr w base g v l) (hl : l.length ≤ 9223372036854775807) : ∃ A n c, v = .slice A n c ∧ RdU w A n l := by
  obtain ⟨h1, h2, h3⟩ := h
  have h2' := h2
  rcases h2.2 with ⟨rfl, h0⟩ | ⟨g', cap, cur, rfl, _, _, _⟩
  · obtain rfl := List.eq_nil_of_length_eq_zero h0
    exact ⟨none, 0, 0, rfl, rdU_nil _ _⟩
  · refine ⟨_, _, _, rfl, rfl, hl, fun _ => ⟨g', 0, rfl, fun i hi => ?_⟩⟩
    have := h2'.cells (g := g') rfl i (bV (l[i])) (by simp [hi])
    rw [add_plain] at this
    unfold atU
    rw [show 0 + i * 1 = 0 + i by omega, show el l i = l[i] by simp [el, List.getD, hi]]
    simpa [bV] using this
set_option maxHeartbeats 400000 in
theorem str42 (base g : Nat) (v : Value) (l : List UInt8) (w : World) (h : Wr w base g v l) (hl : l.length ≤ 9223372036854775807) : Calls Try.prog 42 #[.pointer (some ⟨g, 0, none⟩)] w fun e w' => e = .returned (.string ⟨l.toArray⟩) ∧ w = w' := by
  obtain ⟨A, n, c, rfl, hr⟩ := wr_reads h hl
  have f0 : w.cell? ⟨g, 0, none⟩ = some (.slice A n c) := (blk_cell h.1 0).trans rfl
  have kb := to_string (c := c) hr
  clear h
  go_enter Try.func42, Try.ntmps42
  go_wp2
  go_ret
  exact ⟨rfl, rfl⟩
set_option maxHeartbeats 400000 in
theorem string40 (base g : Nat) (v : Value) (l : List UInt8) (w : World) (h : Wr w base g v l) (hl : l.length ≤ 9223372036854775807) : Calls Try.prog 40 #[.pointer (some ⟨g, 0, none⟩)] w fun e w' => e = .returned (.string ⟨l.toArray⟩) ∧ w = w' := by
  go_enter Try.func40, Try.ntmps40
  go_wp2_with fail
  (with_reducible refine (str42 base g v l w h hl).mono ?_)
  rintro e w' ⟨rfl, rfl⟩
  go_wp2
  go_ret
  exact ⟨rfl, rfl⟩
set_option maxHeartbeats 400000 in
theorem ln43 (base g : Nat) (v : Value) (l : List UInt8) (w : World) (h : Wr w base g v l) (hl : l.length ≤ 9223372036854775807) : Calls Try.prog 43 #[.pointer (some ⟨g, 0, none⟩)] w fun e w' => e = .returned (.int .i64 (l.length : Nat)) ∧ w = w' := by
  obtain ⟨A, n, c, rfl, hr⟩ := wr_reads h hl
  have f0 : w.cell? ⟨g, 0, none⟩ = some (.slice A n c) := (blk_cell h.1 0).trans rfl
  clear h
  go_enter Try.func43, Try.ntmps43
  go_wp2
  go_ret
  exact ⟨by rw [hr.1]; rfl, rfl⟩
set_option maxHeartbeats 400000 in
theorem len41 (base g : Nat) (v : Value) (l : List UInt8) (w : World) (h : Wr w base g v l) (hl : l.length ≤ 9223372036854775807) : Calls Try.prog 41 #[.pointer (some ⟨g, 0, none⟩)] w fun e w' => e = .returned (.int .i64 (l.length : Nat)) ∧ w = w' := by
  go_enter Try.func41, Try.ntmps41
  go_wp2_with fail
  (with_reducible refine (ln43 base g v l w h hl).mono ?_)
  rintro e w' ⟨rfl, rfl⟩
  go_wp2
  go_ret
  exact ⟨rfl, rfl⟩
end Go.Proofs.Ytegkclehijdbiaa.W3

set_option linter.unusedSimpArgs false
set_option linter.unusedVariables false
namespace Go.Proofs.Ytegkclehijdbiaa.W4
open Go.RowKit Go.Proofs.YtegkclehijdbiaaW.PrintWords Go.Proofs.Ytegkclehijdbiaa.V1 Go.Proofs.Ytegkclehijdbiaa.V2 Go.Proofs.Ytegkclehijdbiaa.V3 Go.Proofs.Ytegkclehijdbiaa.N1 Go.Proofs.Ytegkclehijdbiaa.N2 Go.Proofs.Ytegkclehijdbiaa.N3 Go.Proofs.Ytegkclehijdbiaa.CA Go.Proofs.Ytegkclehijdbiaa.CB Go.Proofs.Ytegkclehijdbiaa.CC Go.Proofs.Ytegkclehijdbiaa.CD Go.Proofs.Ytegkclehijdbiaa.W1 Go.Proofs.Ytegkclehijdbiaa.W2 Go.Proofs.Ytegkclehijdbiaa.W3
open Go.Proofs.YtegkclehijdbiaaW.PrintLast hiding takeB
theorem int98 (w : World) : Calls Try.prog 98 #[.int .i64 0] w fun e w' => e = .returned (.agg #[.int .i64 1, .int .i64 0, .string ⟨#[]⟩]) ∧ Below w.heap.size w w' := PCodecTakes.value_Int.calls 0 1 0 ⟨#[]⟩ w rfl
/-- One byte laid, behind a draw. -/
theorem lay1D (base g : Nat) (v : Value) (l : List UInt8) (c : Nat) (b : Int) (x : UInt8) (w : World) (h : Wr w base g v l) (hl : l.length < 100000000) (hb : b = (x.toNat : Int)) :
    Calls Try.prog 77 #[.pointer (some ⟨g, 0, none⟩), .slice (some ⟨w.heap.size, 0, none⟩) 1 c] (w.alloc (.cells #[.int .u8 b] 5)).drew (WrS w base g v (.tuple #[]) (l ++ [x])) := by
  subst hb
  have P2 : Below w.heap.size w (w.alloc (.cells #[.int .u8 (x.toNat : Int)] 5)).drew := (below_alloc (Below.refl _ _) _).drew
  refine (lay77 base g v l ⟨w.heap.size, 0, none⟩ 1 c [x] _ (h.below P2) rfl (fun j u hu => ?_) (by omega)).mono ?_
  · have e2 : (w.alloc (.cells #[.int .u8 (x.toNat : Int)] 5)).drew.heap[w.heap.size]? = some (.cells #[.int .u8 (x.toNat : Int)] 5 (0, 0)) := heap_alloc_new w _
    rw [add_plain, blk_cell e2]
    simpa [bV] using hu
  · rintro e w' ⟨v', rfl, h1, h2⟩
    exact ⟨v', rfl, h1, (KW.below P2).trans h2⟩
theorem Wr.far {w : World} {base g b : Nat} {v : Value} {l : List UInt8} (h : Wr w base g v l) (hg : g ≠ b) (ho : v.ownBlock ≠ some b) (j : Nat) (u : Value) : Wr (w.setCell ⟨b, j, none⟩ u) base g v l := ⟨blk_far h.1 hg _, own_set h.2.1 ho j u, h.2.2⟩
theorem alloc_sz (w : World) (o : Obj) : (w.alloc o).heap.size = w.heap.size + 1 := by simp
set_option maxRecDepth 20000 in
set_option maxHeartbeats 2000000 in
theorem one78 (base g : Nat) (v : Value) (l : List UInt8) (x : Vl) (w : World) (h : Wr w base g v l) (hf : x.Fit) (hl : l.length + x.s.size ≤ 8000000) :
    Calls Try.prog 78 #[.pointer (some ⟨g, 0, none⟩), x.agg] w (WrS w base g v (.tuple #[]) (l ++ encV x)) := by
  obtain ⟨k, n, s⟩ := x
  have hfk := hf.k0
  have hfk1 := hf.k1
  have hfn := hf.n0
  have hfn1 := hf.n1
  have hfs := hf.s1
  dsimp only at hfk hfk1 hfn hfn1 hl hfs
  have H := Lib.hid h
  have hE : Hid (encV ⟨k, n, s⟩ = if okV ⟨k, n, s⟩ = true then (if k = 1 then 1 :: encI n else if k = 2 then 2 :: encT s else [3, UInt8.ofNat n.toNat]) else 1 :: encI 0) := rfl
  have hE0 : encV ⟨k, n, s⟩ = encV ⟨k, n, s⟩ := rfl
  generalize encV ⟨k, n, s⟩ = E at *
  clear hE0
  have hX := alloc_sz w (.cells #[.int .i64 k, .int .i64 n, .string s] 56)
  have hY := alloc_sz (w.alloc (.cells #[.int .i64 k, .int .i64 n, .string s] 56)) (.cells #[.int .i64 k, .int .i64 n, .string s] 56)
  have a0 : Hid (((w.alloc (.cells #[.int .i64 k, .int .i64 n, .string s] 56)).alloc (.cells #[.int .i64 k, .int .i64 n, .string s] 56)).heap[w.heap.size]? = some (vB k n s)) := by
    have h1 : (w.alloc (.cells #[.int .i64 k, .int .i64 n, .string s] 56)).heap[w.heap.size]? = some (vB k n s) := heap_alloc_new w _
    have P : Below (w.alloc (.cells #[.int .i64 k, .int .i64 n, .string s] 56)).heap.size (w.alloc (.cells #[.int .i64 k, .int .i64 n, .string s] 56)) ((w.alloc (.cells #[.int .i64 k, .int .i64 n, .string s] 56)).alloc (.cells #[.int .i64 k, .int .i64 n, .string s] 56)) := by go_grown
    exact (P.block _ (blk_lt h1)).trans h1
  have P0 : Below w.heap.size w ((w.alloc (.cells #[.int .i64 k, .int .i64 n, .string s] 56)).alloc (.cells #[.int .i64 k, .int .i64 n, .string s] 56)) := by go_grown
  have hr : RdV ((w.alloc (.cells #[.int .i64 k, .int .i64 n, .string s] 56)).alloc (.cells #[.int .i64 k, .int .i64 n, .string s] 56)) (some ⟨w.heap.size + 1, 0, none⟩) 1 [⟨k, n, s⟩] := by
    have e2 : ((w.alloc (.cells #[.int .i64 k, .int .i64 n, .string s] 56)).alloc (.cells #[.int .i64 k, .int .i64 n, .string s] 56)).heap[w.heap.size + 1]? = some (vB k n s) := by
      have := heap_alloc_new (w.alloc (.cells #[.int .i64 k, .int .i64 n, .string s] 56)) (.cells #[.int .i64 k, .int .i64 n, .string s] 56)
      rwa [hX] at this
    refine ⟨rfl, by omega, fun _ => ⟨_, 0, rfl, fun i hi => ?_⟩⟩
    obtain rfl : i = 0 := by omega
    exact ⟨(blk_cell e2 0).trans rfl, (blk_cell e2 1).trans rfl, (blk_cell e2 2).trans rfl, hf⟩
  have hR := Lib.hid (right97 (some ⟨w.heap.size + 1, 0, none⟩) 1 1 [⟨k, n, s⟩] _ hr)
  have H2 := Lib.hid (h.below P0)
  have hall : Hid (allV [⟨k, n, s⟩] 1 = okV ⟨k, n, s⟩) := by show (true && okV _) = _; rfl
  have hgl : g < w.heap.size := blk_lt h.1
  have hol := own_lt h.2.1
  clear hr h
  unfold Vl.agg
  go_enter Try.func78, Try.ntmps78
  go_wp2_with fail
  (with_reducible refine hR.out.mono ?_)
  rintro e W1 ⟨rfl, hB1⟩
  rw [hall.out]
  have P1 := P0.trans (hB1.mono (by omega))
  replace a0 : Hid (W1.heap[w.heap.size]? = some (vB k n s)) := (hB1.block _ (by omega)).trans a0.out
  replace H2 := Lib.hid (H2.out.below hB1)
  clear hR hB1 hX hY P0
  generalize (w.alloc (.cells #[.int .i64 k, .int .i64 n, .string s] 56)).alloc (.cells #[.int .i64 k, .int .i64 n, .string s] 56) = Y at *
  have c0 : W1.cell? ⟨w.heap.size, 0, none⟩ = some (.int .i64 k) := (blk_cell a0.out 0).trans rfl
  have c1 : W1.cell? ⟨w.heap.size, 1, none⟩ = some (.int .i64 n) := (blk_cell a0.out 1).trans rfl
  have c2 : W1.cell? ⟨w.heap.size, 2, none⟩ = some (.string s) := (blk_cell a0.out 2).trans rfl
  have qf := blk_frozen a0.out
  have OUT : Hid (Out W1 g v.ownBlock w.heap.size) := Out.new (w := w) hgl hol (Nat.le_refl _) (blk_lt a0.out)
  cases hok : okV ⟨k, n, s⟩ with
  | true =>
    have hkk : k = 1 ∨ k = 2 ∨ (k = 3 ∧ 0 ≤ n ∧ n ≤ 1) := by
      simp [okV] at hok; omega
    rcases hkk with rfl | rfl | ⟨rfl, n0, n1⟩
    · go_upto_region 3 with fail
      have hW2 := lay1D base g v l 1 (IntKind.u8.wrap 1) (1 : UInt8) W1 H2.out (by omega) (by rfl)
      replace hW2 := Lib.hid hW2
      refine start_ (n := 8) (S := fun w' => w'.cell? ⟨w.heap.size, 0, none⟩ = some (.int .i64 1)) (ds := []) #[false, false, false, false, false, false, false, false] (by kernel_rfl) rfl rfl (c0) (fun hHeld => ?_)
      refine pure_ (i := 0) (N := some 9) (v := ?_) (a' := ?_) #[true, false, false, false, false, false, false, false] rfl rfl (by kernel_rfl) (fun _ _ _ h => h) (Or.inl ⟨by rfl, ?_⟩) ?_ ?_
      rotate_left
      · intro w'
        go_simp
        with_reducible rfl
      rotate_left
      · simp only [Act.put, List.setIfInBounds_toArray, List.set_cons_zero, List.set_cons_succ, i64_w, i32_w]
        rfl
      refine pure_ (i := 1) (N := some 10) (v := ?_) (a' := ?_) #[true, true, false, false, false, false, false, false] rfl rfl (by kernel_rfl) (fun _ _ _ h => h) (Or.inl ⟨by rfl, ?_⟩) ?_ ?_
      rotate_left
      · intro w'
        go_simp
        with_reducible rfl
      rotate_left
      · simp only [Act.put, List.setIfInBounds_toArray, List.set_cons_zero, List.set_cons_succ, i64_w, i32_w]
        rfl
      refine pure_ (i := 2) (N := some 11) (v := ?_) (a' := ?_) #[true, true, true, false, false, false, false, false] rfl rfl (by kernel_rfl) (fun _ _ _ h => h) (Or.inl ⟨by rfl, ?_⟩) ?_ ?_
      rotate_left
      · intro w'
        go_simp
        with_reducible rfl
      rotate_left
      · simp only [Act.put, List.setIfInBounds_toArray, List.set_cons_zero, List.set_cons_succ, i64_w, i32_w]
        rfl
      refine pure_ (i := 3) (N := some 12) (v := ?_) (a' := ?_) #[true, true, true, true, false, false, false, false] rfl rfl (by kernel_rfl) (fun _ _ _ h => h) (Or.inl ⟨by rfl, ?_⟩) ?_ ?_
      rotate_left
      · intro w'
        go_simp
        with_reducible rfl
      rotate_left
      · simp only [Act.put, List.setIfInBounds_toArray, List.set_cons_zero, List.set_cons_succ, i64_w, i32_w]
        rfl
      refine take_ (i := 4) (N := some 13) (v := ?_) (a' := ?_) #[true, true, true, true, true, false, false, false] rfl rfl (by kernel_rfl) (fun _ _ _ h => h) (Or.inl ⟨by rfl, ?_⟩) hHeld ?_ ?_
      rotate_left
      · intro w' s0
        go_simp
        with_reducible rfl
      rotate_left
      · simp only [Act.put, List.setIfInBounds_toArray, List.set_cons_zero, List.set_cons_succ, i64_w, i32_w]
        rfl
      refine pure_ (i := 5) (N := some 14) (v := ?_) (a' := ?_) #[true, true, true, true, true, true, false, false] rfl rfl (by kernel_rfl) (fun _ _ _ h => h) (Or.inl ⟨by rfl, ?_⟩) ?_ ?_
      rotate_left
      · intro w'
        go_simp
        with_reducible rfl
      rotate_left
      · simp only [Act.put, List.setIfInBounds_toArray, List.set_cons_zero, List.set_cons_succ, i64_w, i32_w]
        rfl
      refine one_ (i := 6) (N := some 15) #[true, true, true, true, true, true, true, false] rfl rfl (by kernel_rfl) (by decide) (fun K hK => ?_)
      refine value_ (w1 := ?_) (v := ?_) (by rfl) rfl ?_ ?_
      rotate_left 2
      · go_simp
        constructor
        · rfl
        · rfl
      have PAW2 : Below W1.heap.size W1 (W1.alloc (.cells #[.int .u8 (IntKind.u8.wrap 1)] 5)).drew := (below_alloc (Below.refl _ _) _).drew
      refine hK.out _ _ ((pw_cell_below PAW2 c0)) (fun hHeld => ?_)
      clear hK K
      refine norm_ (a' := ?_) ?_ ?_
      rotate_left
      · show Act.put _ (some 15) _ = _
        simp only [Act.put, List.setIfInBounds_toArray, List.set_cons_zero, List.set_cons_succ, i64_w, i32_w]
        rfl
      refine one_ (i := 7) (N := some 16) #[true, true, true, true, true, true, true, true] rfl rfl (by kernel_rfl) (by decide) (fun K hK => ?_)
      refine goes_ Try.func77 (by kernel_rfl) rfl #[.pointer (some ⟨g, 0, none⟩), .slice (some ⟨W1.heap.size, 0, none⟩) 1 1] (by rfl) rfl rfl (by simp only [List.map_toArray, List.map_cons, List.map_nil]; rfl) ?_
      with_reducible refine (hW2.out).mono ?_
      rintro e W2 ⟨v2, rfl, hwW2, hkW2⟩
      refine ⟨_, rfl, ?_⟩
      replace hwW2 := Lib.hid hwW2
      have aW2 : Hid (W2.heap[w.heap.size]? = some (vB 1 n s)) := (OUT.out.heap hkW2).trans a0.out
      refine hK.out _ _ (((blk_cell aW2.out 0).trans rfl)) (fun hHeld => ?_)
      clear hK K
      refine norm_ (a' := ?_) ?_ ?_
      rotate_left
      · show Act.put _ (some 16) _ = _
        simp only [Act.put, List.setIfInBounds_toArray, List.set_cons_zero, List.set_cons_succ, i64_w, i32_w]
        rfl
      refine done_ (by kernel_rfl) ?_
      clear c0 c1 c2 hHeld
      have c0 : W2.cell? ⟨w.heap.size, 0, none⟩ = some (.int .i64 1) := (blk_cell aW2.out 0).trans rfl
      have c1 : W2.cell? ⟨w.heap.size, 1, none⟩ = some (.int .i64 n) := (blk_cell aW2.out 1).trans rfl
      have c2 : W2.cell? ⟨w.heap.size, 2, none⟩ = some (.string s) := (blk_cell aW2.out 2).trans rfl
      have PB : Below W2.heap.size W2 (W2.alloc (.cells #[.int .i64 n] 2)) := by go_grown
      have eB : (W2.alloc (.cells #[.int .i64 n] 2)).heap[W2.heap.size]? = some (.cells #[.int .i64 n] 2 (0, 0)) := heap_alloc_new W2 _
      have hrB : RdN (W2.alloc (.cells #[.int .i64 n] 2)) (some ⟨W2.heap.size, 0, none⟩) 1 [n] := by
        refine ⟨rfl, by omega, fun _ => ⟨_, 0, rfl, fun i hi => ?_⟩⟩
        obtain rfl : i = 0 := by omega
        exact ⟨(blk_cell eB 0).trans rfl, by simp [el] <;> omega, by simp [el] <;> omega⟩
      have hzB : W2.heap.size < (W2.alloc (.cells #[.int .i64 n] 2)).heap.size := blk_lt eB
      have hS := signed35 base g v2 (l ++ [1]) (some ⟨W2.heap.size, 0, none⟩) 1 1 [n] _ (hwW2.out.below PB) hrB (fun _ ad e => by cases e; exact Out.new (blk_lt hwW2.out.1) (own_lt hwW2.out.2.1) (Nat.le_refl _) hzB) (by omega) (by simp; omega)
      replace hS := Lib.hid hS
      clear hrB eB hzB
      go_wp2_with fail
      (with_reducible refine hS.out.mono ?_)
      rintro e W3 ⟨v3, rfl, hw3, hk3⟩
      go_wp2
      go_end0
      refine ⟨v3, rfl, ?_, (KW.below P1).trans (hkW2.trans ((KW.below PB).trans hk3))⟩
      have e3 := hE.out
      simp [hok] at e3
      rw [e3]; simpa using hw3
    · go_upto_region 3 with fail
      have hW2 := lay1D base g v l 1 (IntKind.u8.wrap 2) (2 : UInt8) W1 H2.out (by omega) (by rfl)
      replace hW2 := Lib.hid hW2
      refine start_ (n := 8) (S := fun w' => w'.cell? ⟨w.heap.size, 0, none⟩ = some (.int .i64 2)) (ds := []) #[false, false, false, false, false, false, false, false] (by kernel_rfl) rfl rfl (c0) (fun hHeld => ?_)
      refine pure_ (i := 0) (N := some 9) (v := ?_) (a' := ?_) #[true, false, false, false, false, false, false, false] rfl rfl (by kernel_rfl) (fun _ _ _ h => h) (Or.inl ⟨by rfl, ?_⟩) ?_ ?_
      rotate_left
      · intro w'
        go_simp
        with_reducible rfl
      rotate_left
      · simp only [Act.put, List.setIfInBounds_toArray, List.set_cons_zero, List.set_cons_succ, i64_w, i32_w]
        rfl
      refine pure_ (i := 1) (N := some 10) (v := ?_) (a' := ?_) #[true, true, false, false, false, false, false, false] rfl rfl (by kernel_rfl) (fun _ _ _ h => h) (Or.inl ⟨by rfl, ?_⟩) ?_ ?_
      rotate_left
      · intro w'
        go_simp
        with_reducible rfl
      rotate_left
      · simp only [Act.put, List.setIfInBounds_toArray, List.set_cons_zero, List.set_cons_succ, i64_w, i32_w]
        rfl
      refine pure_ (i := 2) (N := some 11) (v := ?_) (a' := ?_) #[true, true, true, false, false, false, false, false] rfl rfl (by kernel_rfl) (fun _ _ _ h => h) (Or.inl ⟨by rfl, ?_⟩) ?_ ?_
      rotate_left
      · intro w'
        go_simp
        with_reducible rfl
      rotate_left
      · simp only [Act.put, List.setIfInBounds_toArray, List.set_cons_zero, List.set_cons_succ, i64_w, i32_w]
        rfl
      refine pure_ (i := 3) (N := some 12) (v := ?_) (a' := ?_) #[true, true, true, true, false, false, false, false] rfl rfl (by kernel_rfl) (fun _ _ _ h => h) (Or.inl ⟨by rfl, ?_⟩) ?_ ?_
      rotate_left
      · intro w'
        go_simp
        with_reducible rfl
      rotate_left
      · simp only [Act.put, List.setIfInBounds_toArray, List.set_cons_zero, List.set_cons_succ, i64_w, i32_w]
        rfl
      refine take_ (i := 4) (N := some 13) (v := ?_) (a' := ?_) #[true, true, true, true, true, false, false, false] rfl rfl (by kernel_rfl) (fun _ _ _ h => h) (Or.inl ⟨by rfl, ?_⟩) hHeld ?_ ?_
      rotate_left
      · intro w' s0
        go_simp
        with_reducible rfl
      rotate_left
      · simp only [Act.put, List.setIfInBounds_toArray, List.set_cons_zero, List.set_cons_succ, i64_w, i32_w]
        rfl
      refine pure_ (i := 5) (N := some 14) (v := ?_) (a' := ?_) #[true, true, true, true, true, true, false, false] rfl rfl (by kernel_rfl) (fun _ _ _ h => h) (Or.inl ⟨by rfl, ?_⟩) ?_ ?_
      rotate_left
      · intro w'
        go_simp
        with_reducible rfl
      rotate_left
      · simp only [Act.put, List.setIfInBounds_toArray, List.set_cons_zero, List.set_cons_succ, i64_w, i32_w]
        rfl
      refine one_ (i := 6) (N := some 15) #[true, true, true, true, true, true, true, false] rfl rfl (by kernel_rfl) (by decide) (fun K hK => ?_)
      refine value_ (w1 := ?_) (v := ?_) (by rfl) rfl ?_ ?_
      rotate_left 2
      · go_simp
        constructor
        · rfl
        · rfl
      have PAW2 : Below W1.heap.size W1 (W1.alloc (.cells #[.int .u8 (IntKind.u8.wrap 2)] 5)).drew := (below_alloc (Below.refl _ _) _).drew
      refine hK.out _ _ ((pw_cell_below PAW2 c0)) (fun hHeld => ?_)
      clear hK K
      refine norm_ (a' := ?_) ?_ ?_
      rotate_left
      · show Act.put _ (some 15) _ = _
        simp only [Act.put, List.setIfInBounds_toArray, List.set_cons_zero, List.set_cons_succ, i64_w, i32_w]
        rfl
      refine one_ (i := 7) (N := some 16) #[true, true, true, true, true, true, true, true] rfl rfl (by kernel_rfl) (by decide) (fun K hK => ?_)
      refine goes_ Try.func77 (by kernel_rfl) rfl #[.pointer (some ⟨g, 0, none⟩), .slice (some ⟨W1.heap.size, 0, none⟩) 1 1] (by rfl) rfl rfl (by simp only [List.map_toArray, List.map_cons, List.map_nil]; rfl) ?_
      with_reducible refine (hW2.out).mono ?_
      rintro e W2 ⟨v2, rfl, hwW2, hkW2⟩
      refine ⟨_, rfl, ?_⟩
      replace hwW2 := Lib.hid hwW2
      have aW2 : Hid (W2.heap[w.heap.size]? = some (vB 2 n s)) := (OUT.out.heap hkW2).trans a0.out
      refine hK.out _ _ (((blk_cell aW2.out 0).trans rfl)) (fun hHeld => ?_)
      clear hK K
      refine norm_ (a' := ?_) ?_ ?_
      rotate_left
      · show Act.put _ (some 16) _ = _
        simp only [Act.put, List.setIfInBounds_toArray, List.set_cons_zero, List.set_cons_succ, i64_w, i32_w]
        rfl
      refine done_ (by kernel_rfl) ?_
      clear c0 c1 c2 hHeld
      have c0 : W2.cell? ⟨w.heap.size, 0, none⟩ = some (.int .i64 2) := (blk_cell aW2.out 0).trans rfl
      have c1 : W2.cell? ⟨w.heap.size, 1, none⟩ = some (.int .i64 n) := (blk_cell aW2.out 1).trans rfl
      have c2 : W2.cell? ⟨w.heap.size, 2, none⟩ = some (.string s) := (blk_cell aW2.out 2).trans rfl
      have PB : Below W2.heap.size W2 (W2.alloc (.cells #[.string s] 9)) := by go_grown
      have eB : (W2.alloc (.cells #[.string s] 9)).heap[W2.heap.size]? = some (.cells #[.string s] 9 (0, 0)) := heap_alloc_new W2 _
      have hrB : RdT (W2.alloc (.cells #[.string s] 9)) (some ⟨W2.heap.size, 0, none⟩) 1 [s] := by
        refine ⟨rfl, by omega, fun _ => ⟨_, 0, rfl, fun i hi => ?_⟩⟩
        obtain rfl : i = 0 := by omega
        exact ⟨(blk_cell eB 0).trans rfl, by simp [el]; omega⟩
      have hzB : W2.heap.size < (W2.alloc (.cells #[.string s] 9)).heap.size := blk_lt eB
      have hS := text36 base g v2 (l ++ [2]) (some ⟨W2.heap.size, 0, none⟩) 1 1 [s] _ (hwW2.out.below PB) hrB (fun _ ad e => by cases e; exact Out.new (blk_lt hwW2.out.1) (own_lt hwW2.out.2.1) (Nat.le_refl _) hzB) (fun j hj => by
        have h1 := encT_len (s := s) (by omega)
        have h2 := take_le encT (9 + s.size) [s] (fun x hx => by rw [List.mem_singleton.1 hx]; exact h1) j
        have h3 : (9 + s.size) * j ≤ 9 + s.size := by rcases (show j = 0 ∨ j = 1 by omega) with rfl | rfl <;> omega
        rw [List.length_append, List.length_append, List.length_singleton]; omega)
      replace hS := Lib.hid hS
      clear hrB eB hzB
      go_wp2_with fail
      (with_reducible refine hS.out.mono ?_)
      rintro e W3 ⟨v3, rfl, hw3, hk3⟩
      go_wp2
      go_end0
      refine ⟨v3, rfl, ?_, (KW.below P1).trans (hkW2.trans ((KW.below PB).trans hk3))⟩
      have e3 := hE.out
      simp [hok] at e3
      rw [e3]; simpa using hw3
    · go_upto_region 3 with fail
      have hW2 := lay1D base g v l 1 (IntKind.u8.wrap 3) (3 : UInt8) W1 H2.out (by omega) (by rfl)
      replace hW2 := Lib.hid hW2
      refine start_ (n := 8) (S := fun w' => w'.cell? ⟨w.heap.size, 0, none⟩ = some (.int .i64 3)) (ds := []) #[false, false, false, false, false, false, false, false] (by kernel_rfl) rfl rfl (c0) (fun hHeld => ?_)
      refine pure_ (i := 0) (N := some 9) (v := ?_) (a' := ?_) #[true, false, false, false, false, false, false, false] rfl rfl (by kernel_rfl) (fun _ _ _ h => h) (Or.inl ⟨by rfl, ?_⟩) ?_ ?_
      rotate_left
      · intro w'
        go_simp
        with_reducible rfl
      rotate_left
      · simp only [Act.put, List.setIfInBounds_toArray, List.set_cons_zero, List.set_cons_succ, i64_w, i32_w]
        rfl
      refine pure_ (i := 1) (N := some 10) (v := ?_) (a' := ?_) #[true, true, false, false, false, false, false, false] rfl rfl (by kernel_rfl) (fun _ _ _ h => h) (Or.inl ⟨by rfl, ?_⟩) ?_ ?_
      rotate_left
      · intro w'
        go_simp
        with_reducible rfl
      rotate_left
      · simp only [Act.put, List.setIfInBounds_toArray, List.set_cons_zero, List.set_cons_succ, i64_w, i32_w]
        rfl
      refine pure_ (i := 2) (N := some 11) (v := ?_) (a' := ?_) #[true, true, true, false, false, false, false, false] rfl rfl (by kernel_rfl) (fun _ _ _ h => h) (Or.inl ⟨by rfl, ?_⟩) ?_ ?_
      rotate_left
      · intro w'
        go_simp
        with_reducible rfl
      rotate_left
      · simp only [Act.put, List.setIfInBounds_toArray, List.set_cons_zero, List.set_cons_succ, i64_w, i32_w]
        rfl
      refine pure_ (i := 3) (N := some 12) (v := ?_) (a' := ?_) #[true, true, true, true, false, false, false, false] rfl rfl (by kernel_rfl) (fun _ _ _ h => h) (Or.inl ⟨by rfl, ?_⟩) ?_ ?_
      rotate_left
      · intro w'
        go_simp
        with_reducible rfl
      rotate_left
      · simp only [Act.put, List.setIfInBounds_toArray, List.set_cons_zero, List.set_cons_succ, i64_w, i32_w]
        rfl
      refine take_ (i := 4) (N := some 13) (v := ?_) (a' := ?_) #[true, true, true, true, true, false, false, false] rfl rfl (by kernel_rfl) (fun _ _ _ h => h) (Or.inl ⟨by rfl, ?_⟩) hHeld ?_ ?_
      rotate_left
      · intro w' s0
        go_simp
        with_reducible rfl
      rotate_left
      · simp only [Act.put, List.setIfInBounds_toArray, List.set_cons_zero, List.set_cons_succ, i64_w, i32_w]
        rfl
      refine pure_ (i := 5) (N := some 14) (v := ?_) (a' := ?_) #[true, true, true, true, true, true, false, false] rfl rfl (by kernel_rfl) (fun _ _ _ h => h) (Or.inl ⟨by rfl, ?_⟩) ?_ ?_
      rotate_left
      · intro w'
        go_simp
        with_reducible rfl
      rotate_left
      · simp only [Act.put, List.setIfInBounds_toArray, List.set_cons_zero, List.set_cons_succ, i64_w, i32_w]
        rfl
      refine one_ (i := 6) (N := some 15) #[true, true, true, true, true, true, true, false] rfl rfl (by kernel_rfl) (by decide) (fun K hK => ?_)
      refine value_ (w1 := ?_) (v := ?_) (by rfl) rfl ?_ ?_
      rotate_left 2
      · go_simp
        constructor
        · rfl
        · rfl
      have PAW2 : Below W1.heap.size W1 (W1.alloc (.cells #[.int .u8 (IntKind.u8.wrap 3)] 5)).drew := (below_alloc (Below.refl _ _) _).drew
      refine hK.out _ _ ((pw_cell_below PAW2 c0)) (fun hHeld => ?_)
      clear hK K
      refine norm_ (a' := ?_) ?_ ?_
      rotate_left
      · show Act.put _ (some 15) _ = _
        simp only [Act.put, List.setIfInBounds_toArray, List.set_cons_zero, List.set_cons_succ, i64_w, i32_w]
        rfl
      refine one_ (i := 7) (N := some 16) #[true, true, true, true, true, true, true, true] rfl rfl (by kernel_rfl) (by decide) (fun K hK => ?_)
      refine goes_ Try.func77 (by kernel_rfl) rfl #[.pointer (some ⟨g, 0, none⟩), .slice (some ⟨W1.heap.size, 0, none⟩) 1 1] (by rfl) rfl rfl (by simp only [List.map_toArray, List.map_cons, List.map_nil]; rfl) ?_
      with_reducible refine (hW2.out).mono ?_
      rintro e W2 ⟨v2, rfl, hwW2, hkW2⟩
      refine ⟨_, rfl, ?_⟩
      replace hwW2 := Lib.hid hwW2
      have aW2 : Hid (W2.heap[w.heap.size]? = some (vB 3 n s)) := (OUT.out.heap hkW2).trans a0.out
      refine hK.out _ _ (((blk_cell aW2.out 0).trans rfl)) (fun hHeld => ?_)
      clear hK K
      refine norm_ (a' := ?_) ?_ ?_
      rotate_left
      · show Act.put _ (some 16) _ = _
        simp only [Act.put, List.setIfInBounds_toArray, List.set_cons_zero, List.set_cons_succ, i64_w, i32_w]
        rfl
      refine done_ (by kernel_rfl) ?_
      clear c0 c1 c2 hHeld
      have c0 : W2.cell? ⟨w.heap.size, 0, none⟩ = some (.int .i64 3) := (blk_cell aW2.out 0).trans rfl
      have c1 : W2.cell? ⟨w.heap.size, 1, none⟩ = some (.int .i64 n) := (blk_cell aW2.out 1).trans rfl
      have c2 : W2.cell? ⟨w.heap.size, 2, none⟩ = some (.string s) := (blk_cell aW2.out 2).trans rfl
      have hll : (l ++ [3]).length < 100000000 := by simp; omega
      have OU2 : Hid (Out W2 g v2.ownBlock w.heap.size) := OUT.out.kw hkW2
      have hbyte : Hid (IntKind.u8.wrap n = ((UInt8.ofNat n.toNat).toNat : Int)) := by
        show _ = _
        rw [UInt8.toNat_ofNat']
        rcases (show n = 0 ∨ n = 1 by omega) with rfl | rfl <;> rfl
      go_upto_region 5 with fail
      have hW3 := lay1D base g v2 (l ++ [3]) 1 (IntKind.u8.wrap n) (UInt8.ofNat n.toNat) W2 hwW2.out (by omega) (by exact hbyte.out)
      replace hW3 := Lib.hid hW3
      refine start_ (n := 8) (S := fun w' => w'.cell? ⟨w.heap.size, 1, none⟩ = some (.int .i64 n)) (ds := []) #[false, false, false, false, false, false, false, false] (by kernel_rfl) rfl rfl (c1) (fun hHeld => ?_)
      refine pure_ (i := 0) (N := some 19) (v := ?_) (a' := ?_) #[true, false, false, false, false, false, false, false] rfl rfl (by kernel_rfl) (fun _ _ _ h => h) (Or.inl ⟨by rfl, ?_⟩) ?_ ?_
      rotate_left
      · intro w'
        go_simp
        with_reducible rfl
      rotate_left
      · simp only [Act.put, List.setIfInBounds_toArray, List.set_cons_zero, List.set_cons_succ, i64_w, i32_w]
        rfl
      refine pure_ (i := 1) (N := some 20) (v := ?_) (a' := ?_) #[true, true, false, false, false, false, false, false] rfl rfl (by kernel_rfl) (fun _ _ _ h => h) (Or.inl ⟨by rfl, ?_⟩) ?_ ?_
      rotate_left
      · intro w'
        go_simp
        with_reducible rfl
      rotate_left
      · simp only [Act.put, List.setIfInBounds_toArray, List.set_cons_zero, List.set_cons_succ, i64_w, i32_w]
        rfl
      refine pure_ (i := 2) (N := some 21) (v := ?_) (a' := ?_) #[true, true, true, false, false, false, false, false] rfl rfl (by kernel_rfl) (fun _ _ _ h => h) (Or.inl ⟨by rfl, ?_⟩) ?_ ?_
      rotate_left
      · intro w'
        go_simp
        with_reducible rfl
      rotate_left
      · simp only [Act.put, List.setIfInBounds_toArray, List.set_cons_zero, List.set_cons_succ, i64_w, i32_w]
        rfl
      refine pure_ (i := 3) (N := some 22) (v := ?_) (a' := ?_) #[true, true, true, true, false, false, false, false] rfl rfl (by kernel_rfl) (fun _ _ _ h => h) (Or.inl ⟨by rfl, ?_⟩) ?_ ?_
      rotate_left
      · intro w'
        go_simp
        with_reducible rfl
      rotate_left
      · simp only [Act.put, List.setIfInBounds_toArray, List.set_cons_zero, List.set_cons_succ, i64_w, i32_w]
        rfl
      refine take_ (i := 4) (N := some 23) (v := ?_) (a' := ?_) #[true, true, true, true, true, false, false, false] rfl rfl (by kernel_rfl) (fun _ _ _ h => h) (Or.inl ⟨by rfl, ?_⟩) hHeld ?_ ?_
      rotate_left
      · intro w' s0
        go_simp
        with_reducible rfl
      rotate_left
      · simp only [Act.put, List.setIfInBounds_toArray, List.set_cons_zero, List.set_cons_succ, i64_w, i32_w]
        rfl
      refine pure_ (i := 5) (N := some 24) (v := ?_) (a' := ?_) #[true, true, true, true, true, true, false, false] rfl rfl (by kernel_rfl) (fun _ _ _ h => h) (Or.inl ⟨by rfl, ?_⟩) ?_ ?_
      rotate_left
      · intro w'
        go_simp
        with_reducible rfl
      rotate_left
      · simp only [Act.put, List.setIfInBounds_toArray, List.set_cons_zero, List.set_cons_succ, i64_w, i32_w]
        rfl
      refine one_ (i := 6) (N := some 25) #[true, true, true, true, true, true, true, false] rfl rfl (by kernel_rfl) (by decide) (fun K hK => ?_)
      refine value_ (w1 := ?_) (v := ?_) (by rfl) rfl ?_ ?_
      rotate_left 2
      · go_simp
        constructor
        · rfl
        · rfl
      have PAW3 : Below W2.heap.size W2 (W2.alloc (.cells #[.int .u8 (IntKind.u8.wrap n)] 5)).drew := (below_alloc (Below.refl _ _) _).drew
      refine hK.out _ _ ((pw_cell_below PAW3 c1)) (fun hHeld => ?_)
      clear hK K
      refine norm_ (a' := ?_) ?_ ?_
      rotate_left
      · show Act.put _ (some 25) _ = _
        simp only [Act.put, List.setIfInBounds_toArray, List.set_cons_zero, List.set_cons_succ, i64_w, i32_w]
        rfl
      refine one_ (i := 7) (N := some 26) #[true, true, true, true, true, true, true, true] rfl rfl (by kernel_rfl) (by decide) (fun K hK => ?_)
      refine goes_ Try.func77 (by kernel_rfl) rfl #[.pointer (some ⟨g, 0, none⟩), .slice (some ⟨W2.heap.size, 0, none⟩) 1 1] (by rfl) rfl rfl (by simp only [List.map_toArray, List.map_cons, List.map_nil]; rfl) ?_
      with_reducible refine (hW3.out).mono ?_
      rintro e W3 ⟨v3, rfl, hwW3, hkW3⟩
      refine ⟨_, rfl, ?_⟩
      replace hwW3 := Lib.hid hwW3
      have aW3 : Hid (W3.heap[w.heap.size]? = some (vB 3 n s)) := (OU2.out.heap hkW3).trans aW2.out
      refine hK.out _ _ (((blk_cell aW3.out 1).trans rfl)) (fun hHeld => ?_)
      clear hK K
      refine norm_ (a' := ?_) ?_ ?_
      rotate_left
      · show Act.put _ (some 26) _ = _
        simp only [Act.put, List.setIfInBounds_toArray, List.set_cons_zero, List.set_cons_succ, i64_w, i32_w]
        rfl
      refine done_ (by kernel_rfl) ?_
      go_wp2
      go_end0
      refine ⟨v3, rfl, ?_, (KW.below P1).trans (hkW2.trans hkW3)⟩
      have e3 := hE.out
      simp [hok] at e3
      rw [e3]; simpa using hwW3.out
  | false =>
    have hI := Lib.hid (int98 W1)
    go_wp2_with fail
    (with_reducible refine hI.out.mono ?_)
    rintro e W0 ⟨rfl, hB0⟩
    replace P1 := P1.trans (hB0.mono P1.size)
    replace H2 := Lib.hid (H2.out.below hB0)
    replace a0 : Hid (W0.heap[w.heap.size]? = some (vB k n s)) := (hB0.block _ (blk_lt a0.out)).trans a0.out
    clear c0 c1 c2 qf OUT hI hB0
    have c0 : W0.cell? ⟨w.heap.size, 0, none⟩ = some (.int .i64 k) := (blk_cell a0.out 0).trans rfl
    have c1 : W0.cell? ⟨w.heap.size, 1, none⟩ = some (.int .i64 n) := (blk_cell a0.out 1).trans rfl
    have c2 : W0.cell? ⟨w.heap.size, 2, none⟩ = some (.string s) := (blk_cell a0.out 2).trans rfl
    have qf := blk_frozen a0.out
    go_upto_region 3 with fail
    have hlt0 : w.heap.size < W0.heap.size := blk_lt a0.out
    have az : Hid ((((W0.setCell ⟨w.heap.size, 0, none⟩ (.int .i64 1)).setCell ⟨w.heap.size, 1, none⟩ (.int .i64 0)).setCell ⟨w.heap.size, 2, none⟩ (.string ⟨#[]⟩)).heap[w.heap.size]? = some (vB 1 0 ⟨#[]⟩)) := blk_put (blk_put (blk_put a0.out 0 _ rfl) 1 _ rfl) 2 _ rfl
    have hoz : v.ownBlock ≠ some w.heap.size := fun e => by have := hol _ e; omega
    have HZ := Lib.hid (W4.Wr.far (W4.Wr.far (W4.Wr.far H2.out (Nat.ne_of_lt hgl) hoz 0 (.int .i64 1)) (Nat.ne_of_lt hgl) hoz 1 (.int .i64 0)) (Nat.ne_of_lt hgl) hoz 2 (.string ⟨#[]⟩))
    have PZ := below_set (j := 2) (v := .string ⟨#[]⟩) (below_set (j := 1) (v := .int .i64 0) (below_set (j := 0) (v := .int .i64 1) P1 (Nat.le_refl _)) (Nat.le_refl _)) (Nat.le_refl w.heap.size)
    clear c0 c1 c2 qf a0 H2 P1
    generalize ((W0.setCell ⟨w.heap.size, 0, none⟩ (.int .i64 1)).setCell ⟨w.heap.size, 1, none⟩ (.int .i64 0)).setCell ⟨w.heap.size, 2, none⟩ (.string ⟨#[]⟩) = W1 at *
    have OUT : Hid (Out W1 g v.ownBlock w.heap.size) := Out.new (w := w) hgl hol (Nat.le_refl _) (blk_lt az.out)
    have c0 : W1.cell? ⟨w.heap.size, 0, none⟩ = some (.int .i64 1) := (blk_cell az.out 0).trans rfl
    have c1 : W1.cell? ⟨w.heap.size, 1, none⟩ = some (.int .i64 0) := (blk_cell az.out 1).trans rfl
    have c2 : W1.cell? ⟨w.heap.size, 2, none⟩ = some (.string ⟨#[]⟩) := (blk_cell az.out 2).trans rfl
    have qf := blk_frozen az.out
    have hW2 := lay1D base g v l 1 (IntKind.u8.wrap 1) (1 : UInt8) W1 HZ.out (by omega) (by rfl)
    replace hW2 := Lib.hid hW2
    refine start_ (n := 8) (S := fun w' => w'.cell? ⟨w.heap.size, 0, none⟩ = some (.int .i64 1)) (ds := []) #[false, false, false, false, false, false, false, false] (by kernel_rfl) rfl rfl (c0) (fun hHeld => ?_)
    refine pure_ (i := 0) (N := some 9) (v := ?_) (a' := ?_) #[true, false, false, false, false, false, false, false] rfl rfl (by kernel_rfl) (fun _ _ _ h => h) (Or.inl ⟨by rfl, ?_⟩) ?_ ?_
    rotate_left
    · intro w'
      go_simp
      with_reducible rfl
    rotate_left
    · simp only [Act.put, List.setIfInBounds_toArray, List.set_cons_zero, List.set_cons_succ, i64_w, i32_w]
      rfl
    refine pure_ (i := 1) (N := some 10) (v := ?_) (a' := ?_) #[true, true, false, false, false, false, false, false] rfl rfl (by kernel_rfl) (fun _ _ _ h => h) (Or.inl ⟨by rfl, ?_⟩) ?_ ?_
    rotate_left
    · intro w'
      go_simp
      with_reducible rfl
    rotate_left
    · simp only [Act.put, List.setIfInBounds_toArray, List.set_cons_zero, List.set_cons_succ, i64_w, i32_w]
      rfl
    refine pure_ (i := 2) (N := some 11) (v := ?_) (a' := ?_) #[true, true, true, false, false, false, false, false] rfl rfl (by kernel_rfl) (fun _ _ _ h => h) (Or.inl ⟨by rfl, ?_⟩) ?_ ?_
    rotate_left
    · intro w'
      go_simp
      with_reducible rfl
    rotate_left
    · simp only [Act.put, List.setIfInBounds_toArray, List.set_cons_zero, List.set_cons_succ, i64_w, i32_w]
      rfl
    refine pure_ (i := 3) (N := some 12) (v := ?_) (a' := ?_) #[true, true, true, true, false, false, false, false] rfl rfl (by kernel_rfl) (fun _ _ _ h => h) (Or.inl ⟨by rfl, ?_⟩) ?_ ?_
    rotate_left
    · intro w'
      go_simp
      with_reducible rfl
    rotate_left
    · simp only [Act.put, List.setIfInBounds_toArray, List.set_cons_zero, List.set_cons_succ, i64_w, i32_w]
      rfl
    refine take_ (i := 4) (N := some 13) (v := ?_) (a' := ?_) #[true, true, true, true, true, false, false, false] rfl rfl (by kernel_rfl) (fun _ _ _ h => h) (Or.inl ⟨by rfl, ?_⟩) hHeld ?_ ?_
    rotate_left
    · intro w' s0
      go_simp
      with_reducible rfl
    rotate_left
    · simp only [Act.put, List.setIfInBounds_toArray, List.set_cons_zero, List.set_cons_succ, i64_w, i32_w]
      rfl
    refine pure_ (i := 5) (N := some 14) (v := ?_) (a' := ?_) #[true, true, true, true, true, true, false, false] rfl rfl (by kernel_rfl) (fun _ _ _ h => h) (Or.inl ⟨by rfl, ?_⟩) ?_ ?_
    rotate_left
    · intro w'
      go_simp
      with_reducible rfl
    rotate_left
    · simp only [Act.put, List.setIfInBounds_toArray, List.set_cons_zero, List.set_cons_succ, i64_w, i32_w]
      rfl
    refine one_ (i := 6) (N := some 15) #[true, true, true, true, true, true, true, false] rfl rfl (by kernel_rfl) (by decide) (fun K hK => ?_)
    refine value_ (w1 := ?_) (v := ?_) (by rfl) rfl ?_ ?_
    rotate_left 2
    · go_simp
      constructor
      · rfl
      · rfl
    have PAW2 : Below W1.heap.size W1 (W1.alloc (.cells #[.int .u8 (IntKind.u8.wrap 1)] 5)).drew := (below_alloc (Below.refl _ _) _).drew
    refine hK.out _ _ ((pw_cell_below PAW2 c0)) (fun hHeld => ?_)
    clear hK K
    refine norm_ (a' := ?_) ?_ ?_
    rotate_left
    · show Act.put _ (some 15) _ = _
      simp only [Act.put, List.setIfInBounds_toArray, List.set_cons_zero, List.set_cons_succ, i64_w, i32_w]
      rfl
    refine one_ (i := 7) (N := some 16) #[true, true, true, true, true, true, true, true] rfl rfl (by kernel_rfl) (by decide) (fun K hK => ?_)
    refine goes_ Try.func77 (by kernel_rfl) rfl #[.pointer (some ⟨g, 0, none⟩), .slice (some ⟨W1.heap.size, 0, none⟩) 1 1] (by rfl) rfl rfl (by simp only [List.map_toArray, List.map_cons, List.map_nil]; rfl) ?_
    with_reducible refine (hW2.out).mono ?_
    rintro e W2 ⟨v2, rfl, hwW2, hkW2⟩
    refine ⟨_, rfl, ?_⟩
    replace hwW2 := Lib.hid hwW2
    have aW2 : Hid (W2.heap[w.heap.size]? = some (vB 1 0 ⟨#[]⟩)) := (OUT.out.heap hkW2).trans az.out
    refine hK.out _ _ (((blk_cell aW2.out 0).trans rfl)) (fun hHeld => ?_)
    clear hK K
    refine norm_ (a' := ?_) ?_ ?_
    rotate_left
    · show Act.put _ (some 16) _ = _
      simp only [Act.put, List.setIfInBounds_toArray, List.set_cons_zero, List.set_cons_succ, i64_w, i32_w]
      rfl
    refine done_ (by kernel_rfl) ?_
    clear c0 c1 c2 hHeld
    have c0 : W2.cell? ⟨w.heap.size, 0, none⟩ = some (.int .i64 1) := (blk_cell aW2.out 0).trans rfl
    have c1 : W2.cell? ⟨w.heap.size, 1, none⟩ = some (.int .i64 0) := (blk_cell aW2.out 1).trans rfl
    have c2 : W2.cell? ⟨w.heap.size, 2, none⟩ = some (.string ⟨#[]⟩) := (blk_cell aW2.out 2).trans rfl
    have PB : Below W2.heap.size W2 (W2.alloc (.cells #[.int .i64 0] 2)) := by go_grown
    have eB : (W2.alloc (.cells #[.int .i64 0] 2)).heap[W2.heap.size]? = some (.cells #[.int .i64 0] 2 (0, 0)) := heap_alloc_new W2 _
    have hrB : RdN (W2.alloc (.cells #[.int .i64 0] 2)) (some ⟨W2.heap.size, 0, none⟩) 1 [0] := by
      refine ⟨rfl, by omega, fun _ => ⟨_, 0, rfl, fun i hi => ?_⟩⟩
      obtain rfl : i = 0 := by omega
      exact ⟨(blk_cell eB 0).trans rfl, by simp [el] <;> omega, by simp [el] <;> omega⟩
    have hzB : W2.heap.size < (W2.alloc (.cells #[.int .i64 0] 2)).heap.size := blk_lt eB
    have hS := signed35 base g v2 (l ++ [1]) (some ⟨W2.heap.size, 0, none⟩) 1 1 [0] _ (hwW2.out.below PB) hrB (fun _ ad e => by cases e; exact Out.new (blk_lt hwW2.out.1) (own_lt hwW2.out.2.1) (Nat.le_refl _) hzB) (by omega) (by simp; omega)
    replace hS := Lib.hid hS
    clear hrB eB hzB
    go_wp2_with fail
    (with_reducible refine hS.out.mono ?_)
    rintro e W3 ⟨v3, rfl, hw3, hk3⟩
    go_wp2
    go_end0
    refine ⟨v3, rfl, ?_, (KW.below PZ).trans (hkW2.trans ((KW.below PB).trans hk3))⟩
    have e3 := hE.out
    simp [hok] at e3
    rw [e3]; simpa using hw3
end Go.Proofs.Ytegkclehijdbiaa.W4

set_option linter.unusedSimpArgs false
set_option linter.unusedVariables false
namespace Go.Proofs.Ytegkclehijdbiaa.W5
open Go.RowKit Go.Proofs.YtegkclehijdbiaaW.PrintWords Go.Proofs.Ytegkclehijdbiaa.V1 Go.Proofs.Ytegkclehijdbiaa.V2 Go.Proofs.Ytegkclehijdbiaa.V3 Go.Proofs.Ytegkclehijdbiaa.N1 Go.Proofs.Ytegkclehijdbiaa.N2 Go.Proofs.Ytegkclehijdbiaa.N3 Go.Proofs.Ytegkclehijdbiaa.CA Go.Proofs.Ytegkclehijdbiaa.CB Go.Proofs.Ytegkclehijdbiaa.CC Go.Proofs.Ytegkclehijdbiaa.CD Go.Proofs.Ytegkclehijdbiaa.W1 Go.Proofs.Ytegkclehijdbiaa.W2 Go.Proofs.Ytegkclehijdbiaa.W3 Go.Proofs.Ytegkclehijdbiaa.W4
open Go.Proofs.YtegkclehijdbiaaW.PrintLast hiding takeB
theorem encV_len (x : Vl) (hf : x.Fit) : (encV x).length ≤ 10 + x.s.size := by
  have h1 := encT_len hf.s1
  have h2 := encI_len hf.n0 hf.n1
  have h3 := encI_len (n := 0) (by omega) (by omega)
  unfold encV
  split
  · split
    · simp; omega
    · split
      · simp; omega
      · simp; omega
  · simp; omega
set_option maxRecDepth 8000 in
set_option maxHeartbeats 1000000 in
theorem value37 (base g : Nat) (v : Value) (l : List UInt8) (A : Option Addr) (n c : Nat) (ns : List Vl) (w : World) (h : Wr w base g v l) (hr : RdV w A n ns) (hA : OutA w g v.ownBlock A n) (hl : ∀ k, k < n → (l ++ (ns.take k).flatMap encV).length + (el ns k).s.size ≤ 8000000) :
    Calls Try.prog 37 #[.pointer (some ⟨g, 0, none⟩), .slice A n c] w (WrS w base g v (.pointer (some ⟨g, 0, none⟩)) (l ++ ns.flatMap encV)) := by
  replace hr := Lib.hid hr
  replace hA := Lib.hid hA
  replace hl := Lib.hid hl
  have hnb : n ≤ 9223372036854775807 := hr.out.2.1
  have H := Lib.hid h
  have hns : Hid (ns.take n = ns) := List.take_of_length_le (by rw [hr.out.1]; exact Nat.le_refl _)
  go_enter Try.func37, Try.ntmps37
  go_wp2
  go_loopg [9] n (fun kq i wr => LpW w base g v l encV ns n kq i wr)
  case atStart => exact LpW.start H.out
  case round =>
    obtain ⟨v', k, rfl, hk, rfl, hw, hkw⟩ := hrel
    replace hw := Lib.hid hw
    by_cases hlt : k < n
    · have rk := rd_kw (P := atV) atV.kw hr.out hA.out hkw
      obtain ⟨b, o, rfl, ⟨z0, z1, z2, hf⟩, q2⟩ := rk.at_ hlt
      have q0 : (0 : Int) ≤ (k : Int) := by omega
      have q1 : (k : Int) < (n : Int) := by omega
      have hst := Lib.hid (take_flat encV ns k (by rw [hr.out.1]; exact hlt))
      have hb1 := hl.out k hlt
      have hfin : Hid (∀ v2 W2, Wr W2 base g v2 (l ++ (ns.take k).flatMap encV ++ encV (el ns k)) → Wr W2 base g v2 (l ++ (ns.take (k + 1)).flatMap encV)) := by
        intro v2 W2 h2
        rw [hst.out, ← List.append_assoc]; exact h2
      have hN := Lib.hid (fun W hW => one78 base g v' _ (el ns k) W hW hf hb1)
      generalize encV (el ns k) = Q at *
      clear hst
      generalize el ns k = x at *
      obtain ⟨xk, xn, xs⟩ := x
      dsimp only [Vl.agg] at *
      replace hf := Lib.hid hf
      have P2 : Below wr.heap.size wr (wr.alloc (.cells #[.int .i64 xk, .int .i64 xn, .string xs] 56)) := by go_grown
      have hM := Lib.hid (hN.out _ (hw.out.below P2))
      clear hN
      go_wp2_with fail
      (with_reducible refine hM.out.mono ?_)
      rintro e W2 ⟨v2, rfl, hw2, hk2⟩
      replace hw2 := Lib.hid (hfin.out _ _ hw2)
      clear hM
      go_wp2
      go_roundg (n - (k + 1))
      case measure => omega
      case rel => exact ⟨v2, k + 1, by congr 1, by omega, rfl, hw2.out, hkw.trans ((KW.below P2).trans hk2)⟩
    · obtain rfl : k = n := by omega
      go_wp2
      go_ret
      rw [hns.out] at hw
      exact ⟨v', rfl, hw.out, hkw⟩
/-- How much a row may weigh. -/
def wt (ns : List Vl) : Nat := (ns.map fun x => 10 + x.s.size).sum
theorem wt_le : ∀ (ns : List Vl), (∀ x ∈ ns, x.Fit) → (ns.flatMap encV).length ≤ wt ns
  | [], _ => by simp [wt]
  | x :: ns, h => by
    have h1 := encV_len x (h x (by simp))
    have h2 := wt_le ns (fun y hy => h y (by simp [hy]))
    simp only [wt, List.flatMap_cons, List.length_append, List.map_cons, List.sum_cons] at h2 ⊢
    omega
theorem wt_take (ns : List Vl) (k : Nat) (h : k < ns.length) : wt (ns.take k) + 10 + (el ns k).s.size ≤ wt ns := by
  have e : ns = ns.take k ++ el ns k :: ns.drop (k + 1) := by
    have : el ns k = ns[k] := by simp [el, List.getD, h]
    rw [this, List.getElem_cons_drop, List.take_append_drop]
  conv => rhs; rw [e]
  simp only [wt, List.map_append, List.sum_append, List.map_cons, List.sum_cons]
  omega
theorem fits_mem {w : World} {A : Option Addr} {n : Nat} {l : List Vl} (h : RdV w A n l) : ∀ x ∈ l, x.Fit := rd_mem h Vl.Fit (fun _ _ _ h => h.2.2.2)
theorem value37' (base g : Nat) (v : Value) (l : List UInt8) (A : Option Addr) (n c : Nat) (ns : List Vl) (w : World) (h : Wr w base g v l) (hr : RdV w A n ns) (hA : OutA w g v.ownBlock A n) (hl : l.length + wt ns ≤ 8000000) :
    Calls Try.prog 37 #[.pointer (some ⟨g, 0, none⟩), .slice A n c] w (WrS w base g v (.pointer (some ⟨g, 0, none⟩)) (l ++ ns.flatMap encV)) :=
  value37 base g v l A n c ns w h hr hA (fun k hk => by
    have h1 := wt_le (ns.take k) (fun x hx => fits_mem hr x (List.mem_of_mem_take hx))
    have h2 := wt_take ns k (by rw [hr.1]; exact hk)
    rw [List.length_append]; omega)
/-- One number in a row of its own. -/
theorem one_n {w : World} {m : Int} (h0 : -9223372036854775808 ≤ m) (h1 : m ≤ 9223372036854775807) (t : TypeId) : RdN (w.alloc (.cells #[.int .i64 m] t)) (some ⟨w.heap.size, 0, none⟩) 1 [m] := by
  have eB : (w.alloc (.cells #[.int .i64 m] t)).heap[w.heap.size]? = some (.cells #[.int .i64 m] t (0, 0)) := heap_alloc_new w _
  refine ⟨rfl, by omega, fun _ => ⟨_, 0, rfl, fun i hi => ?_⟩⟩
  obtain rfl : i = 0 := by omega
  exact ⟨(blk_cell eB 0).trans rfl, by simpa [el] using h0, by simpa [el] using h1⟩
theorem out_n {w : World} {base g : Nat} {v : Value} {l : List UInt8} (h : Wr w base g v l) (o : Obj) : OutA (w.alloc o) g v.ownBlock (some ⟨w.heap.size, 0, none⟩) 1 := fun _ ad e => by
  cases e
  exact Out.new (blk_lt h.1) (own_lt h.2.1) (Nat.le_refl _) (by rw [alloc_sz]; exact Nat.lt_succ_self _)
set_option maxRecDepth 8000 in
set_option maxHeartbeats 1000000 in
theorem row38 (base g : Nat) (v : Value) (l : List UInt8) (A : Option Addr) (n c : Nat) (ns : List Vl) (w : World) (h : Wr w base g v l) (hr : RdV w A n ns) (hA : OutA w g v.ownBlock A n) (hl : l.length + 9 + wt ns ≤ 8000000) :
    Calls Try.prog 38 #[.pointer (some ⟨g, 0, none⟩), .slice A n c] w (WrS w base g v (.pointer (some ⟨g, 0, none⟩)) (l ++ encRow ns)) := by
  have hnb : n ≤ 9223372036854775807 := hr.2.1
  have hE : Hid (encRow ns = num n ++ ns.flatMap encV) := by show _ = _; rw [encRow, hr.1]
  have P2 : Below w.heap.size w (w.alloc (.cells #[.int .i64 (n : Int)] 3)) := by go_grown
  have hS := Lib.hid (size34 base g v l (some ⟨w.heap.size, 0, none⟩) 1 1 [(n : Int)] _ (h.below P2) (one_n (by omega) (by omega) 3) (out_n h _) (by omega) (by omega))
  have hlen : Hid ((l ++ [(n : Int)].flatMap encS).length ≤ l.length + 9) := by
    show _ ≤ _
    have := encS_len (n := (n : Int)) (by omega) (by omega)
    simp; omega
  have hl2 : Hid (l ++ encRow ns = (l ++ [(n : Int)].flatMap encS) ++ ns.flatMap encV) := by
    show _ = _; rw [hE.out]; simp [encS]
  generalize encRow ns = E at *
  generalize l ++ [(n : Int)].flatMap encS = l1 at *
  replace hr := Lib.hid hr
  replace hA := Lib.hid hA
  clear hE h
  go_enter Try.func38, Try.ntmps38
  go_wp2_with fail
  (with_reducible refine hS.out.mono ?_)
  rintro e W2 ⟨v2, rfl, hw2, hk2⟩
  have hK := (KW.below (g := g) (o := v.ownBlock) P2).trans hk2
  have hV := Lib.hid (value37' base g v2 l1 A n c ns W2 hw2 (rd_kw (P := atV) atV.kw hr.out hA.out hK) (hA.out.kw hK) (by have := hlen.out; omega))
  clear hS
  go_wp2_with fail
  (with_reducible refine hV.out.mono ?_)
  rintro e W3 ⟨v3, rfl, hw3, hk3⟩
  go_wp2
  go_ret
  exact ⟨v3, rfl, by rw [hl2.out]; exact hw3, hK.trans hk3⟩
end Go.Proofs.Ytegkclehijdbiaa.W5
