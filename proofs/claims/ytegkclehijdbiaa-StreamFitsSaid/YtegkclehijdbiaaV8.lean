import Derived.Test.YtegkclehijdbiaaV7
import Derived.Lib.SliceRun
set_option linter.unusedSimpArgs false
set_option linter.unusedVariables false
namespace Go.Proofs.Ytegkclehijdbiaa.V8
open Go.RowKit Go.Proofs.YtegkclehijdbiaaW.PrintWords Go.Proofs.YtegkclehijdbiaaW.PrintLast Go.Proofs.Ytegkclehijdbiaa.V1 Go.Proofs.Ytegkclehijdbiaa.V2 Go.Proofs.Ytegkclehijdbiaa.V3 Go.Proofs.Ytegkclehijdbiaa.V4 Go.Proofs.Ytegkclehijdbiaa.V5 Go.Proofs.Ytegkclehijdbiaa.V6

/-- The cells of a list of structs. -/
theorem flat_len {α : Type} (f : α → List Value) (sz : Nat) (hf : ∀ a, (f a).length = sz) : ∀ l : List α, (l.flatMap f).length = l.length * sz
  | [] => by simp
  | a :: l => by rw [List.flatMap_cons, List.length_append, hf, flat_len f sz hf l, List.length_cons, Nat.add_mul, Nat.one_mul, Nat.add_comm]
theorem flat_get {α : Type} [Inhabited α] (f : α → List Value) (sz : Nat) (hf : ∀ a, (f a).length = sz) : ∀ (l : List α) (i j : Nat), i < l.length → j < sz → (l.flatMap f)[i * sz + j]? = (f (el l i))[j]?
  | a :: l, 0, j, _, hj => by
    rw [List.flatMap_cons, Nat.zero_mul, Nat.zero_add, List.getElem?_append_left (by rw [hf]; exact hj)]; rfl
  | a :: l, i + 1, j, hi, hj => by
    rw [List.flatMap_cons, List.getElem?_append_right (by rw [hf, Nat.add_mul]; omega), hf, show (i + 1) * sz + j - sz = i * sz + j by rw [Nat.add_mul]; omega, flat_get f sz hf l i j (by simpa using hi) hj]; rfl
theorem flat_all {α : Type} [Inhabited α] (f : α → List Value) (sz : Nat) (hs : 0 < sz) (hf : ∀ a, (f a).length = sz) (l : List α) (P : Nat → Value → Prop) (h : ∀ i j u, i < l.length → j < sz → (f (el l i))[j]? = some u → P (i * sz + j) u) : ∀ j u, (l.flatMap f)[j]? = some u → P j u := by
  intro j u hu
  have hj : j < (l.flatMap f).length := by
    rcases Nat.lt_or_ge j (l.flatMap f).length with h1 | h1
    · exact h1
    · rw [List.getElem?_eq_none h1] at hu; cases hu
  rw [flat_len f sz hf] at hj
  have h1 : j / sz < l.length := Nat.div_lt_of_lt_mul (by rw [Nat.mul_comm]; exact hj)
  have h2 : j % sz < sz := Nat.mod_lt _ hs
  have e : j / sz * sz + j % sz = j := by rw [Nat.mul_comm]; exact Nat.div_add_mod j sz
  have := h (j / sz) (j % sz) u h1 h2 (by rw [← flat_get f sz hf l _ _ h1 h2, e]; exact hu)
  rwa [e] at this
def cC (c : Cl) : List Value := [.string c.s, .int .i64 c.k]
theorem cC_len (c : Cl) : (cC c).length = 2 := rfl
theorem rdC_news {w : World} {g o n : Nat} {cs : List Cl} (h : RdC w (some ⟨g, o, none⟩) n cs) : ∀ j u, (cs.flatMap cC)[j]? = some u → w.cell? ((⟨g, o, none⟩ : Addr).add j) = some u := by
  refine flat_all cC 2 (by omega) cC_len cs _ fun i j u hi hj hu => ?_
  rw [h.1] at hi
  obtain ⟨g', o', e, ⟨c0, c1, _⟩, _⟩ := h.at_ hi
  injection e with e
  injection e with e1 e2
  subst e1 e2
  rw [V1.add_at, ← Nat.add_assoc]
  rcases (show j = 0 ∨ j = 1 by omega) with rfl | rfl
  · simp [cC] at hu; rw [← hu]; exact c0
  · simp [cC] at hu; rw [← hu]; exact c1
theorem rdC_fit {w : World} {A : Option Addr} {n : Nat} {cs : List Cl} (h : RdC w A n cs) (i : Nat) (hi : i < n) : (el cs i).Fit := by
  obtain ⟨g', o', e, ⟨c0, c1, hf⟩, _⟩ := h.at_ hi
  exact hf
theorem rdC_own {w : World} {base n cap g : Nat} {cs : List Cl} (h : w.ownsRow base 109 2 (.slice (some ⟨g, 0, none⟩) n cap) n (cs.flatMap cC)) (hl : cs.length = n) (hn : n ≤ 9223372036854775807) (hf : ∀ i, i < n → (el cs i).Fit) : RdC w (some ⟨g, 0, none⟩) n cs := by
  refine ⟨hl, hn, fun _ => ⟨g, 0, rfl, fun i hi => ?_⟩⟩
  have hc := fun j u hu => h.cells (g := g) rfl j u hu
  have h0 := hc (i * 2 + 0) (.string (el cs i).s) (by rw [flat_get cC 2 cC_len cs i 0 (by omega) (by omega)]; rfl)
  have h1 := hc (i * 2 + 1) (.int .i64 (el cs i).k) (by rw [flat_get cC 2 cC_len cs i 1 (by omega) (by omega)]; rfl)
  rw [add_plain] at h0 h1
  rw [Nat.zero_add]
  exact ⟨h0, h1, hf i hi⟩

theorem info109 : (Try.prog.info? 109).map (fun i => (i.zero, i.size, i.bytes)) = some (some (.agg #[.string ByteArray.empty, .int .i64 0]), 2, 24) := by kernel_rfl
/-- A copy of columns. -/
def ClR (w : World) (n : Nat) (cs : List Cl) (e : Ending) (w' : World) : Prop := ∃ B d, e = .returned (.slice B n d) ∧ RdC w' B n cs ∧ n ≤ d ∧ d ≤ 9223372036854775807 ∧ Below w.heap.size w w'
set_option maxRecDepth 20000 in
set_option maxHeartbeats 1000000 in
theorem clone93 (A : Option Addr) (n c : Nat) (cs : List Cl) (w : World) (hc : RdC w A n cs) (hn : n ≤ 1000000) : Calls Try.prog 93 #[.slice A n c] w (ClR w n cs) := by
  cases A with
  | none =>
    have h0 : n = 0 := by
      rcases Nat.eq_zero_or_pos n with h | h
      · exact h
      · obtain ⟨g, o, e, _⟩ := hc.2.2 h; cases e
    subst h0
    have hE := Lib.run_eql_slice_nil (P := Try.prog) w 22 109 none 0 c 0 0 (by kernel_rfl)
    go_enter Try.func93, Try.ntmps93
    go_wp2
    go_ret
    exact ⟨none, 0, rfl, hc, by omega, by omega, Below.refl _ _⟩
  | some a =>
    obtain ⟨i0, hi, hzz⟩ := Option.map_eq_some_iff.1 info109
    simp only [Prod.mk.injEq] at hzz
    obtain ⟨hz0, hz1, hz2⟩ := hzz
    have hE := Lib.run_eql_slice_nil (P := Try.prog) w 22 109 (some a) n c 0 0 (by kernel_rfl)
    have P0 : Below w.heap.size w (w.alloc (.cells #[] 109)) := by go_grown
    have hcX := rdC_below hc P0
    have hown : (w.alloc (.cells #[] 109)).ownsRow w.heap.size 109 2 (.slice (some ⟨w.heap.size, 0, none⟩) 0 0) 0 [] :=
      ⟨by simp, .inr ⟨w.heap.size, 0, #[], rfl, Nat.le_refl _, get_new _ _ _ rfl, Nat.le_refl _, by simp [maxLen], by simp, by simp⟩⟩
    have hlen := Lib.hid hc.1
    have hnews : ∀ j u, (cs.flatMap cC)[j]? = some u → (w.alloc (.cells #[] 109)).cell? (a.add j) = some u := by
      rcases Nat.eq_zero_or_pos n with h | h
      · have e : cs = [] := List.eq_nil_of_length_eq_zero (by rw [hc.1]; exact h)
        subst e; intro j u hu; simp at hu
      · obtain ⟨g, o, e, _⟩ := hcX.2.2 h
        injection e with e; subst e
        exact rdC_news hcX
    have hnews := Lib.hid hnews
    have hfit := Lib.hid (fun i hi => rdC_fit hc i hi)
    go_enter Try.func93, Try.ntmps93
    go_wp2_with (at_builtin; refine wpList_append_own_at (w.alloc (.cells #[] 109)) rfl (.tmp 5) (.tmp 6) 22 rfl w.heap.size 109 i0 (.agg #[.string ByteArray.empty, .int .i64 0]) 2 24 Try.underlying22 hi hz0 hz1 hz2 rfl (by omega) (.slice (some ⟨w.heap.size, 0, none⟩) 0 0) 0 [] rfl hown a n c (cs.flatMap cC) rfl (by rw [flat_len cC 2 cC_len, hlen.out]) hnews.out (by intro u hu; simp only [List.mem_flatMap, cC, List.mem_cons, List.not_mem_nil, or_false] at hu; obtain ⟨x, _, rfl | rfl⟩ := hu <;> rfl) (by simp only [maxLen]; omega) (by omega) (by simp) ?_; intro v1 w1 hown1 hg1 _ _)
    go_ret
    have hB := P0.grown hg1 (by simp) (own_base hown)
    rw [Nat.zero_add, List.nil_append] at hown1
    rcases hown1.2 with ⟨rfl, h0⟩ | ⟨g', cap, cur, rfl, _, _, h1, h2, _⟩
    · subst h0
      exact ⟨none, 0, rfl, ⟨hlen.out, by omega, fun h => absurd h (by omega)⟩, by omega, by omega, hB⟩
    · exact ⟨_, cap, rfl, rdC_own hown1 hlen.out (by omega) hfit.out, h1, h2, hB⟩
end Go.Proofs.Ytegkclehijdbiaa.V8
