import Derived.Test.YtchjlcchggeonaaPLexx16
import Derived.Test.YtchjlcchggeonaaWEqStruct
set_option linter.unusedSimpArgs false
set_option linter.unusedVariables false
namespace Go.Proofs.Ytchjlcchggeonaa.LN
open Go.RowKit Go.Proofs.Ytchjlcchggeonaa.PLex Go.Proofs.YtchjlcchggeonaaW.PrintWords Go.Proofs.YtchjlcchggeonaaW.PrintLast Go.Proofs.YtchjlcchggeonaaW.PrintMore

/-- Texts in memory. -/
def Txt (w : World) (A : Option Addr) (n : Nat) : Prop := n ≤ 9223372036854775807 ∧ (0 < n → ∃ g o, A = some ⟨g, o, none⟩ ∧ ∀ i < n, ∃ s : ByteArray, w.cell? ⟨g, o + i, none⟩ = some (.string s))
theorem Txt.below {w w' : World} {A : Option Addr} {n : Nat} (h : Txt w A n) (hb : Below w.heap.size w w') : Txt w' A n := by
  refine ⟨h.1, fun hn => ?_⟩
  obtain ⟨g, o, e, hc⟩ := h.2 hn
  refine ⟨g, o, e, fun i hi => ?_⟩
  obtain ⟨s, hs⟩ := hc i hi
  exact ⟨s, pw_cell_below hb hs⟩
theorem Txt.at_ {w : World} {A : Option Addr} {n : Nat} (h : Txt w A n) {k : Nat} (hk : k < n) : ∃ g o s, A = some ⟨g, o, none⟩ ∧ w.cell? ⟨g, o + k, none⟩ = some (.string s) ∧ (⟨g, o, none⟩ : Addr).add k = ⟨g, o + k, none⟩ := by
  obtain ⟨g, o, e, hc⟩ := h.2 (by omega)
  obtain ⟨s, hs⟩ := hc k hk
  exact ⟨g, o, s, e, hs, AWK_add_at g o k⟩
set_option maxHeartbeats 400000 in
theorem look16n (k : Int) (w : World) : Calls Try.prog 16 #[.pointer none, .int .i64 k] w fun e w' => e = .returned (.agg #[.int .i64 4, .string ⟨#[]⟩, .int .i64 0, .int .i64 0]) ∧ Below w.heap.size w w' := by
  go_enter Try.func16, Try.ntmps16
  go_wp2
  go_returns
  exact ⟨rfl, by go_grown⟩
set_option maxHeartbeats 400000 in
theorem word9n (w : World) : Calls Try.prog 9 #[.pointer none] w fun e w' => e = .returned (.agg #[.int .i64 4, .string ⟨#[]⟩, .int .i64 0, .int .i64 0]) ∧ Below w.heap.size w w' := by
  have b0 : (w.alloc (.cells #[.int .i64 0, .string ⟨#[]⟩, .int .i64 0, .int .i64 0] 28)).heap[w.heap.size]? = some (.cells #[.int .i64 0, .string ⟨#[]⟩, .int .i64 0, .int .i64 0] 28 (0, 0)) := heap_alloc_new w _
  have P0 : Below w.heap.size w (w.alloc (.cells #[.int .i64 0, .string ⟨#[]⟩, .int .i64 0, .int .i64 0] 28)) := by go_grown
  have b0 := Lib.hid b0
  go_enter Try.func9, Try.ntmps9
  go_wp2_with fail
  generalize w.alloc (.cells #[.int .i64 0, .string ⟨#[]⟩, .int .i64 0, .int .i64 0] 28) = X at *
  (with_reducible refine (look16n 0 _).mono ?_)
  rintro e Z ⟨rfl, hB⟩
  have b1 : Hid (Z.heap[w.heap.size]? = some (.cells #[.int .i64 0, .string ⟨#[]⟩, .int .i64 0, .int .i64 0] 28 (0, 0))) := (hB.block _ (blk_lt b0.out)).trans b0.out
  have P1 := P0.trans (hB.mono P0.size)
  have g0 : Z.cell? ⟨w.heap.size, 0, none⟩ = some (.int .i64 0) := (blk_cell b1.out 0).trans rfl
  have g1 : Z.cell? ⟨w.heap.size, 1, none⟩ = some (.string ⟨#[]⟩) := (blk_cell b1.out 1).trans rfl
  have g2 : Z.cell? ⟨w.heap.size, 2, none⟩ = some (.int .i64 0) := (blk_cell b1.out 2).trans rfl
  have g3 : Z.cell? ⟨w.heap.size, 3, none⟩ = some (.int .i64 0) := (blk_cell b1.out 3).trans rfl
  have q0 := blk_frozen b1.out
  go_wp2
  refine bodyPost_ret (results_cell_row rfl _ _ w.heap.size 28 #[.int .i64 4, .string ⟨#[]⟩, .int .i64 0, .int .i64 0] (0, 0) _ rfl (blk_put (blk_put (blk_put (blk_put b1.out 0 _ rfl) 1 _ rfl) 2 _ rfl) 3 _ rfl) Try.underlying28 rfl (by kernel_rfl)) rfl ?_
  exact ⟨rfl, below_set (below_set (below_set (below_set P1 (Nat.le_refl _)) (Nat.le_refl _)) (Nat.le_refl _)) (Nat.le_refl _)⟩
set_option maxHeartbeats 400000 in
theorem left12n (w : World) : Calls Try.prog 12 #[.pointer none] w fun e w' => e = .returned (.int .i64 0) ∧ Below w.heap.size w w' := by
  go_enter Try.func12, Try.ntmps12
  go_wp2
  go_ret
  exact ⟨rfl, Below.refl _ _⟩
theorem says_no (s : ByteArray) (w : World) : Calls Try.prog 18 #[.agg #[.int .i64 4, .string ⟨#[]⟩, .int .i64 0, .int .i64 0], .string s] w fun e w' => e = .returned (.bool false) ∧ Below w.heap.size w w' :=
  lex_Word_says.calls 4 ⟨#[]⟩ 0 0 s false w rfl
set_option maxHeartbeats 1000000 in
theorem take11n (A : Option Addr) (n c : Nat) (w : World) (h : Txt w A n) : Calls Try.prog 11 #[.pointer none, .slice A n c] w fun e w' => e = .returned (.bool false) ∧ Below w.heap.size w w' := by
  have hn := h.1
  go_enter Try.func11, Try.ntmps11
  go_wp2
  go_loopw [9] (fun i wr => i = .int .i64 0 ∧ wr = w) (fun i _ => 0)
  case atStart => exact ⟨rfl, rfl⟩
  case round =>
    obtain ⟨rfl, rfl⟩ := hrel
    by_cases h0 : 0 < n
    · obtain ⟨g, o, s, rfl, hs, ha⟩ := h.at_ h0
      rw [Nat.add_zero] at hs
      have q1 : (0 : Int) < (n : Int) := by omega
      go_wp2_with fail
      (with_reducible refine (look16n _ _).mono ?_)
      rintro e W1 ⟨rfl, hB1⟩
      clear hs
      go_wp2_with fail
      (with_reducible refine (says_no _ _).mono ?_)
      rintro e W2 ⟨rfl, hB2⟩
      go_wp2
      go_ret
      exact ⟨rfl, hB1.trans (hB2.mono hB1.size)⟩
    · obtain rfl : n = 0 := by omega
      go_wp2
      go_ret
      exact ⟨rfl, Below.refl _ _⟩
def IxR (w : World) (e : Ending) (w' : World) : Prop := e = .returned (.int .i64 (-1)) ∧ Below w.heap.size w w'
set_option maxHeartbeats 1000000 in
theorem index26n (A : Option Addr) (n c : Nat) (w : World) (h : Txt w A n) : Calls Try.prog 26 #[.slice A n c, .func (.func 18) #[.agg #[.int .i64 4, .string ⟨#[]⟩, .int .i64 0, .int .i64 0]] #[]] w (IxR w) := by
  have hn := h.1
  go_enter Try.func26, Try.ntmps26
  go_wp2
  go_loopw [8] (fun i wr => ∃ k : Nat, i = .int .i64 k ∧ k ≤ n ∧ Below w.heap.size w wr) (fun i _ => n - (intOf i).toNat)
  case atStart => exact ⟨0, rfl, by omega, Below.refl _ _⟩
  case round =>
    obtain ⟨k, rfl, hk, bel⟩ := hrel
    by_cases hlt : k < n
    · obtain ⟨g, o, s, rfl, hs, ha⟩ := (h.below bel).at_ hlt
      have q0 : (0 : Int) ≤ (k : Int) := by omega
      have q1 : (k : Int) < (n : Int) := by omega
      go_wp2_with fail
      (with_reducible refine (says_no _ _).mono ?_)
      rintro e W2 ⟨rfl, hB2⟩
      clear hs
      go_wp2
      go_roundw
      case rel => exact ⟨k + 1, by go_num, by omega, bel.trans (hB2.mono bel.size)⟩
      case measure => simp [intOf] <;> omega
    · obtain rfl : k = n := by omega
      go_wp2
      go_ret
      exact ⟨rfl, bel⟩
set_option maxHeartbeats 400000 in
theorem contains17n (A : Option Addr) (n c : Nat) (w : World) (h : Txt w A n) : Calls Try.prog 17 #[.slice A n c, .func (.func 18) #[.agg #[.int .i64 4, .string ⟨#[]⟩, .int .i64 0, .int .i64 0]] #[]] w fun e w' => e = .returned (.bool false) ∧ Below w.heap.size w w' := by
  go_enter Try.func17, Try.ntmps17
  go_wp2_with fail
  (with_reducible refine (index26n A n c _ h).mono ?_)
  rintro e W2 ⟨rfl, hB2⟩
  go_wp2
  go_ret
  exact ⟨rfl, hB2⟩
set_option maxHeartbeats 400000 in
theorem is10n (A : Option Addr) (n c : Nat) (w : World) (h : Txt w A n) : Calls Try.prog 10 #[.pointer none, .slice A n c] w fun e w' => e = .returned (.bool false) ∧ Below w.heap.size w w' := by
  go_enter Try.func10, Try.ntmps10
  go_wp2_with fail
  (with_reducible refine (word9n _).mono ?_)
  rintro e W1 ⟨rfl, hB1⟩
  go_wp2_with fail
  (with_reducible refine (contains17n A n c _ (h.below hB1)).mono ?_)
  rintro e W2 ⟨rfl, hB2⟩
  go_wp2
  go_ret
  exact ⟨rfl, hB1.trans (hB2.mono hB1.size)⟩
theorem results_row_tmp {P : Program} {fn : Func} {p u : Tmp} {ty : TypeId} (h : fn.results = #[.cell p ty, .tmp u]) (tmps : Array Value) (w : World) (g : Nat) (t : TypeId) (cs : Array Value) (fr : Nat × Nat) (d : TypeDesc)
    (hp : tmps.getD p undef = .pointer (some ⟨g, 0, none⟩)) (hg : w.heap[g]? = some (.cells cs t fr))
    (hu : P.underlying ty = some d) (hd : (match d with | .struct _ | .array _ _ => true | _ => false) = true) (hi : (P.info? ty).map (·.size) = some cs.size) :
    (results fn tmps).run P w = .ok (.tuple #[.agg cs, tmps.getD u undef]) w := by
  have hp' : tmps[p]?.getD undef = .pointer (some ⟨g, 0, none⟩) := by simpa using hp
  simp [results, h, hp', asAddr, run_loadVar_row w g t ty cs fr d hg hu hd hi]
set_option maxRecDepth 8000 in
set_option maxHeartbeats 1000000 in
theorem kind8n (n : Int) (w : World) : Calls Try.prog 8 #[.pointer none, .int .i64 n] w fun e w' => e = .returned (.tuple #[.agg #[.int .i64 0, .string ⟨#[]⟩, .int .i64 0, .int .i64 0], .bool false]) ∧ Below w.heap.size w w' := by
  have b0 : (w.alloc (.cells #[.int .i64 0, .string ⟨#[]⟩, .int .i64 0, .int .i64 0] 28)).heap[w.heap.size]? = some (.cells #[.int .i64 0, .string ⟨#[]⟩, .int .i64 0, .int .i64 0] 28 (0, 0)) := heap_alloc_new w _
  have P0 : Below w.heap.size w (w.alloc (.cells #[.int .i64 0, .string ⟨#[]⟩, .int .i64 0, .int .i64 0] 28)) := by go_grown
  have b0 := Lib.hid b0
  go_enter Try.func8, Try.ntmps8
  go_wp2_with fail
  generalize w.alloc (.cells #[.int .i64 0, .string ⟨#[]⟩, .int .i64 0, .int .i64 0] 28) = X at *
  (with_reducible refine (word9n _).mono ?_)
  rintro e Z ⟨rfl, hB⟩
  have b1 : Hid (Z.heap[w.heap.size]? = some (.cells #[.int .i64 0, .string ⟨#[]⟩, .int .i64 0, .int .i64 0] 28 (0, 0))) := (hB.block _ (blk_lt b0.out)).trans b0.out
  have P1 := P0.trans (hB.mono P0.size)
  go_wp2_with fail
  have PA : Below Z.heap.size Z (Z.alloc (.cells #[.int .i64 4, .string ⟨#[]⟩, .int .i64 0, .int .i64 0] 28)) := by go_grown
  have d0 : (Z.alloc (.cells #[.int .i64 4, .string ⟨#[]⟩, .int .i64 0, .int .i64 0] 28)).cell? ⟨Z.heap.size, 0, none⟩ = some (.int .i64 4) := by go_simp
  generalize Z.alloc (.cells #[.int .i64 4, .string ⟨#[]⟩, .int .i64 0, .int .i64 0] 28) = Y at *
  have b2 : Hid (Y.heap[w.heap.size]? = some (.cells #[.int .i64 0, .string ⟨#[]⟩, .int .i64 0, .int .i64 0] 28 (0, 0))) := (PA.block _ (blk_lt b1.out)).trans b1.out
  have P2 := P1.trans (PA.mono P1.size)
  (with_reducible refine (left12n _).mono ?_)
  rintro e V ⟨rfl, hB3⟩
  have b3 : Hid (V.heap[w.heap.size]? = some (.cells #[.int .i64 0, .string ⟨#[]⟩, .int .i64 0, .int .i64 0] 28 (0, 0))) := (hB3.block _ (blk_lt b2.out)).trans b2.out
  have P3 := P2.trans (hB3.mono P2.size)
  have d1 := pw_cell_below hB3 d0
  have g0 : V.cell? ⟨w.heap.size, 0, none⟩ = some (.int .i64 0) := (blk_cell b3.out 0).trans rfl
  have g1 : V.cell? ⟨w.heap.size, 1, none⟩ = some (.string ⟨#[]⟩) := (blk_cell b3.out 1).trans rfl
  have g2 : V.cell? ⟨w.heap.size, 2, none⟩ = some (.int .i64 0) := (blk_cell b3.out 2).trans rfl
  have g3 : V.cell? ⟨w.heap.size, 3, none⟩ = some (.int .i64 0) := (blk_cell b3.out 3).trans rfl
  have q0 := blk_frozen b3.out
  go_wp2
  refine bodyPost_ret (results_row_tmp rfl _ _ w.heap.size 28 #[.int .i64 0, .string ⟨#[]⟩, .int .i64 0, .int .i64 0] (0, 0) _ rfl (blk_put (blk_put (blk_put (blk_put b3.out 0 _ rfl) 1 _ rfl) 2 _ rfl) 3 _ rfl) Try.underlying28 rfl (by kernel_rfl)) rfl ?_
  exact ⟨rfl, below_set (below_set (below_set (below_set P3 (Nat.le_refl _)) (Nat.le_refl _)) (Nat.le_refl _)) (Nat.le_refl _)⟩
attribute [local go_sem high] AWK_eqA28
set_option maxRecDepth 8000 in
set_option maxHeartbeats 1000000 in
/-- LexNone. -/
theorem law (n : Int) (A : Option Addr) (m c : Nat) (w : World) (h : Txt w A m) : Calls Try.prog 5 #[.int .i64 n, .slice A m c] w fun e w' => e = .returned (.bool true) ∧ Below w.heap.size w w' := by
  go_enter Try.func5, Try.ntmps5
  go_wp2_with fail
  (with_reducible refine (kind8n n _).mono ?_)
  rintro e W1 ⟨rfl, P1⟩
  go_wp2_with fail
  have PA : Below W1.heap.size W1 (W1.alloc (.cells #[.int .i64 0, .string ⟨#[]⟩, .int .i64 0, .int .i64 0] 28)) := by go_grown
  have d0 : (W1.alloc (.cells #[.int .i64 0, .string ⟨#[]⟩, .int .i64 0, .int .i64 0] 28)).cell? ⟨W1.heap.size, 0, none⟩ = some (.int .i64 0) := by go_simp
  have d1 : (W1.alloc (.cells #[.int .i64 0, .string ⟨#[]⟩, .int .i64 0, .int .i64 0] 28)).cell? ⟨W1.heap.size, 1, none⟩ = some (.string ⟨#[]⟩) := by go_simp
  have d2 : (W1.alloc (.cells #[.int .i64 0, .string ⟨#[]⟩, .int .i64 0, .int .i64 0] 28)).cell? ⟨W1.heap.size, 2, none⟩ = some (.int .i64 0) := by go_simp
  have d3 : (W1.alloc (.cells #[.int .i64 0, .string ⟨#[]⟩, .int .i64 0, .int .i64 0] 28)).cell? ⟨W1.heap.size, 3, none⟩ = some (.int .i64 0) := by go_simp
  generalize W1.alloc (.cells #[.int .i64 0, .string ⟨#[]⟩, .int .i64 0, .int .i64 0] 28) = X at *
  have P2 := P1.trans (PA.mono P1.size)
  (with_reducible refine (word9n _).mono ?_)
  rintro e W2 ⟨rfl, hB2⟩
  have P3 := P2.trans (hB2.mono P2.size)
  go_wp2_with fail
  (with_reducible refine (is10n A m c _ (h.below P3)).mono ?_)
  rintro e W3 ⟨rfl, hB3⟩
  have P4 := P3.trans (hB3.mono P3.size)
  go_wp2_with fail
  (with_reducible refine (take11n A m c _ (h.below P4)).mono ?_)
  rintro e W4 ⟨rfl, hB4⟩
  have P5 := P4.trans (hB4.mono P4.size)
  have PX := (hB2.trans (hB3.mono hB2.size)).trans (hB4.mono (Nat.le_trans hB2.size hB3.size))
  have d0 := pw_cell_below PX d0
  have d1 := pw_cell_below PX d1
  have d2 := pw_cell_below PX d2
  have d3 := pw_cell_below PX d3
  go_wp2_with fail
  (with_reducible refine (left12n _).mono ?_)
  rintro e W5 ⟨rfl, hB5⟩
  have P6 := P5.trans (hB5.mono P5.size)
  clear d0 d1 d2 d3
  go_wp2_with fail
  (with_reducible refine (AWK_awake7 _).mono ?_)
  rintro e W6 ⟨rfl, hB6⟩
  go_wp2
  go_ret
  exact ⟨rfl, P6.trans (hB6.mono P6.size)⟩
end Go.Proofs.Ytchjlcchggeonaa.LN
