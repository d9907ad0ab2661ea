import Derived.Test.YtegkclehijdbiaaMC
set_option linter.unusedSimpArgs false
set_option linter.unusedVariables false
namespace Go.Proofs.Ytegkclehijdbiaa.CR
open Go.RowKit Go.Proofs.YtegkclehijdbiaaW.PrintWords Go.Proofs.Ytegkclehijdbiaa.V1 Go.Proofs.Ytegkclehijdbiaa.V2 Go.Proofs.Ytegkclehijdbiaa.V3 Go.Proofs.Ytegkclehijdbiaa.N1 Go.Proofs.Ytegkclehijdbiaa.N2 Go.Proofs.Ytegkclehijdbiaa.N3 Go.Proofs.Ytegkclehijdbiaa.CA Go.Proofs.Ytegkclehijdbiaa.CB Go.Proofs.Ytegkclehijdbiaa.CC Go.Proofs.Ytegkclehijdbiaa.CD Go.Proofs.Ytegkclehijdbiaa.CE Go.Proofs.Ytegkclehijdbiaa.CF Go.Proofs.Ytegkclehijdbiaa.CG Go.Proofs.Ytegkclehijdbiaa.V8
open Go.Proofs.YtegkclehijdbiaaW.PrintLast hiding takeB

/-- Rows that hang on the blocks B .. E alone. -/
def Dep (w : World) (B E : Nat) (A : Option Addr) (n : Nat) (ls : List (List Vl)) : Prop := ∀ w' : World, (∀ b, B ≤ b → b < E → w'.heap[b]? = w.heap[b]?) → RdR w' A n ls
theorem Dep.rd {w : World} {B E n : Nat} {A : Option Addr} {ls : List (List Vl)} (h : Dep w B E A n ls) : RdR w A n ls := h w (fun _ _ _ => rfl)
theorem Dep.move {w w' : World} {B E n : Nat} {A : Option Addr} {ls : List (List Vl)} (h : Dep w B E A n ls) (hk : ∀ b, B ≤ b → b < E → w'.heap[b]? = w.heap[b]?) : Dep w' B E A n ls := fun w2 h2 => h w2 (fun b h0 h1 => (h2 b h0 h1).trans (hk b h0 h1))
theorem dep_nil (w : World) (B E : Nat) (A : Option Addr) : Dep w B E A 0 [] := fun _ _ => rdR_nil _ _
theorem dep_from {w W : World} {v7 : Value} {acc : List (Value × List Vl)} (hown : W.ownsRow w.heap.size 48 1 v7 acc.length (acc.map Prod.fst)) (hs : ∀ p ∈ acc, Slot W w.heap.size v7 p.1 p.2) (hn : acc.length ≤ 9000000) : ∃ A c, v7 = .slice A acc.length c ∧ Dep W w.heap.size W.heap.size A acc.length (acc.map Prod.snd) ∧ acc.length ≤ c ∧ c ≤ 9223372036854775807 := by
  have hown' := hown
  have hlt := own_lt hown
  rcases hown.2 with ⟨rfl, h0⟩ | ⟨g', cap, cur, rfl, hb, hc, h1, h2, _⟩
  · obtain rfl : acc = [] := List.eq_nil_of_length_eq_zero h0
    exact ⟨none, 0, rfl, dep_nil _ _ _ _, by omega, by omega⟩
  · refine ⟨_, cap, rfl, fun w' hk => ⟨by simp, by omega, fun _ => ⟨g', 0, rfl, fun i hi => ?_⟩⟩, h1, h2⟩
    obtain ⟨A, n, c, hu, hr, hc1, hc2, hin⟩ := hs _ (List.getElem_mem hi)
    have := hown'.cells (g := g') rfl i (acc[i]).1 (by simp [hi])
    rw [add_plain] at this
    have hg' : w'.heap[g']? = W.heap[g']? := hk g' hb (hlt g' rfl)
    have hcell : ∀ j, w'.cell? ⟨g', j, none⟩ = W.cell? ⟨g', j, none⟩ := fun j => by unfold World.cell?; rw [hg']
    refine ⟨A, n, c, ?_, ?_, hc1, hc2⟩
    · rw [show 0 + i * 1 = 0 + i by omega, hcell]; rw [hu] at this; simpa using this
    · have e : el (acc.map Prod.snd) i = (acc[i]).2 := by simp [el, List.getD, hi]
      rw [e]; exact rdV_heap hr (fun hn ad e => hk _ (hin hn ad e).1 (rdV_lt hr hn ad e))
/-- What Rows leaves. -/
def StRD (w : World) (g : Nat) (p : List (List Vl) × Option (List UInt8)) (e : Ending) (w' : World) : Prop := ∃ A n c, e = .returned (.slice A n c) ∧ Dep w' w.heap.size w'.heap.size A n p.1 ∧ n ≤ c ∧ c ≤ 9223372036854775807 ∧ Rs w' g p.2 ∧ Keep1 g w w'
set_option maxRecDepth 8000 in
set_option maxHeartbeats 2000000 in
theorem rows50f (g : Nat) (most cols : Int) (st : Option (List UInt8)) (w : World) (h : Rs w g st) (m0 : -9223372036854775808 ≤ most) (m1 : most ≤ 9223372036854775807) (k0 : -9223372036854775808 ≤ cols) (k1 : cols ≤ 9223372036854775807) (hlen : ∀ l, st = some l → l.length ≤ 9000000) :
    Calls Try.prog 50 #[.pointer (some ⟨g, 0, none⟩), .int .i64 most, .int .i64 cols] w (StRD w g (res (takeRows most cols) [] st)) := by
  obtain ⟨i0, hi, hzz⟩ := Option.map_eq_some_iff.1 info48
  simp only [Prod.mk.injEq] at hzz
  obtain ⟨hz0, hz1, hz2⟩ := hzz
  replace hi := Lib.hid hi
  replace hz0 := Lib.hid hz0
  replace hz1 := Lib.hid hz1
  replace hz2 := Lib.hid hz2
  have H := Lib.hid h
  have hR := Lib.hid (moreR_start most cols st)
  have hroom := Lib.hid (takeS_room (most := most) hlen)
  have hgw := Lib.hid h.lt
  clear h hlen
  go_enter Try.func50, Try.ntmps50
  go_wp2_with fail
  (with_reducible refine (size71 g most st _ H.out m0 m1).mono ?_)
  rintro e W1 ⟨rfl, hs1, hk1⟩
  obtain ⟨s0, s1⟩ := takeS_bd most st m1
  generalize res (takeS most) 0 st = p at *
  obtain ⟨kn, st1⟩ := p
  dsimp only at *
  obtain ⟨kq, rfl⟩ : ∃ x : Nat, kn = (x : Int) := ⟨kn.toNat, by omega⟩
  rw [Int.toNat_natCast] at hR
  generalize res (takeRows most cols) [] st = R at *
  replace hs1 := Lib.hid hs1
  have hkq : kq ≤ 9223372036854775807 := by omega
  go_wp2
  go_loopg [7, 8] kq (fun k v7 v8 wr => CG.RsL w g cols R k v7 v8 wr)
  case atStart =>
    exact ⟨[], st1, rfl, CF.own_nil _ _ _ _, (fun v hv => by cases hv), hs1.out, hk1, hR.out.symm, (fun l hl => by have := hroom.out l hl; simpa using this), hkq⟩
  case round =>
    obtain ⟨acc, s, rfl, hown, hfit, hs, hk, hm, hl, hb⟩ := hrel
    replace hown := Lib.hid hown
    replace hs := Lib.hid hs
    replace hfit := Lib.hid hfit
    replace hm := Lib.hid hm
    replace hl := Lib.hid hl
    cases s with
    | none =>
      have hRn : Hid (R = ([], none)) := by show _ = _; rw [← hm.out]; rfl
      cases gk with
      | zero =>
        go_wp2_with fail
        (with_reducible refine (good52 g _ _ hs.out).mono ?_)
        rintro e W2 ⟨rfl, rfl⟩
        dsimp only [Option.isSome]
        go_wp2
        go_ret
        rw [hRn.out]
        exact ⟨none, 0, 0, rfl, dep_nil _ _ _ _, by omega, by omega, hs.out, hk⟩
      | succ gk =>
        have c1 : (0 : Int) < ((gk + 1 : Nat) : Int) := by omega
        go_wp2_with fail
        (with_reducible refine (good52 g _ _ hs.out).mono ?_)
        rintro e W2 ⟨rfl, rfl⟩
        dsimp only [Option.isSome]
        go_wp2_with fail
        (with_reducible refine (good52 g _ _ hs.out).mono ?_)
        rintro e W2 ⟨rfl, rfl⟩
        dsimp only [Option.isSome]
        go_wp2
        go_ret
        rw [hRn.out]
        exact ⟨none, 0, 0, rfl, dep_nil _ _ _ _, by omega, by omega, hs.out, hk⟩
    | some l =>
      have hla : acc.length ≤ 9000000 := by have := hl.out l rfl; omega
      cases gk with
      | zero =>
        have hRn : Hid (R = (acc.map Prod.snd, some l)) := by show _ = _; rw [← hm.out]; exact moreR_zero _ _ _
        obtain ⟨A, c, rfl, hrd, h1, h2⟩ := dep_from hown.out hfit.out hla
        go_wp2_with fail
        (with_reducible refine (good52 g _ _ hs.out).mono ?_)
        rintro e W2 ⟨rfl, rfl⟩
        dsimp only [Option.isSome]
        go_wp2
        go_ret
        rw [hRn.out]
        exact ⟨A, _, c, rfl, hrd, h1, h2, hs.out, hk⟩
      | succ gk =>
        have c1 : (0 : Int) < ((gk + 1 : Nat) : Int) := by omega
        go_wp2_with fail
        (with_reducible refine (good52 g _ _ hs.out).mono ?_)
        rintro e W2 ⟨rfl, rfl⟩
        dsimp only [Option.isSome]
        go_wp2_with fail
        (with_reducible refine (row72 g cols (some l) _ hs.out k0 k1 (fun l' e => by cases e; have := hl.out l rfl; omega)).mono ?_)
        rintro e W2 ⟨A, n, c, rfl, hrd, hn1, hn2, hA, hs2, hk2⟩
        have hst := Lib.hid (moreR_step cols (acc.map Prod.snd) gk l)
        have hvq := Lib.hid (takeRow_room (cols := cols) (l := l))
        generalize res (takeRow cols) [] (some l) = p at *
        obtain ⟨row, s2⟩ := p
        dsimp only at *
        replace hrd := Lib.hid hrd
        replace hA := Lib.hid hA
        have P2 : Below W2.heap.size W2 (W2.alloc (.cells #[.slice A n c] 48)) := by go_grown
        have hown2 : Hid ((W2.alloc (.cells #[.slice A n c] 48)).ownsRow w.heap.size 48 1 u7 acc.length (acc.map Prod.fst)) := own_keep hown.out (hk2.trans (Keep1.below P2)) hgw.out
        have e2 : (W2.alloc (.cells #[.slice A n c] 48)).heap[W2.heap.size]? = some (.cells #[.slice A n c] 48 (0, 0)) := heap_alloc_new W2 _
        have hnews : Hid (∀ j u, [Value.slice A n c][j]? = some u → (W2.alloc (.cells #[.slice A n c] 48)).cell? ((⟨W2.heap.size, 0, none⟩ : Addr).add j) = some u) := by
          intro j u hu
          rw [add_plain, blk_cell e2]
          simpa using hu
        clear e2
        have c2 := Lib.hid hkq
        have hbs : w.heap.size ≤ (W2.alloc (.cells #[.slice A n c] 48)).heap.size := by have := hk.size; have := hk2.size; have := P2.size; omega
        replace hs2 := Lib.hid hs2
        go_wp2_with (at_builtin; refine wpList_append_own_at (W2.alloc (.cells #[.slice A n c] 48)) rfl (.tmp 20) (.tmp 24) 36 rfl w.heap.size 48 i0 (.slice none 0 0) 1 24 Try.underlying36 hi.out hz0.out hz1.out hz2.out rfl (by omega) u7 acc.length (acc.map Prod.fst) rfl hown2.out ⟨W2.heap.size, 0, none⟩ 1 1 [.slice A n c] rfl rfl hnews.out (by intro u hu; simp only [List.mem_cons, List.not_mem_nil, or_false] at hu; rcases hu with rfl; rfl) (by simp only [maxLen]; omega) (by omega) hbs ?_; intro v1 w1 hown1 hg1 _ hob)
        have hgu : ∀ k, u7.ownBlock = some k → w.heap.size ≤ k := fun k e => own_base hown2.out k e
        have P3 : Below (g + 1) (W2.alloc (.cells #[.slice A n c] 48)) w1 := (Below.refl _ _).grown hg1 (by have := hgw.out; have := hs2.out.lt; have := P2.size; omega) (fun k e => by have := hgu k e; have := hgw.out; omega)
        have K3 : Keep1 g w w1 := Keep1.grown (hk.trans (hk2.trans (Keep1.below P2))) hg1 hgu
        have hol : ∀ k, u7.ownBlock = some k → k < wr.heap.size := fun k e => own_lt hown.out k e
        have hkeep : ∀ b, b < W2.heap.size → u7.ownBlock ≠ some b → w1.heap[b]? = W2.heap[b]? := fun b hb hne => (hg1.block b (by have := P2.size; omega) (fun e => hne e.symm)).trans (P2.block b hb)
        have hnew : ∀ b, b < W2.heap.size → u7.ownBlock ≠ some b → v1.ownBlock ≠ some b := by
          intro b hb hne e
          rcases hob with h | h
          · exact hne (h.symm.trans e)
          · rw [h] at e; injection e with e; have := P2.size; omega
        go_roundg gk
        case measure => omega
        case rel =>
          refine ⟨acc ++ [(.slice A n c, row)], s2, by congr 1, by simpa using hown1, fun p hp => ?_, (hs2.out.below P2).low P3, K3, by rw [List.map_append]; rw [← hm.out]; exact hst.out.symm, fun q hq => by have := hvq.out q hq; have := hl.out l rfl; simp only [List.length_append, List.length_cons, List.length_nil]; omega, by omega⟩
          rcases List.mem_append.1 hp with hp | hp
          · obtain ⟨A', n', c', e1, hr', x1, x2, x3⟩ := hfit.out p hp
            refine ⟨A', n', c', e1, rdV_heap hr' (fun hn ad e => ?_), x1, x2, fun hn ad e => ⟨(x3 hn ad e).1, ?_⟩⟩
            · have b1 := rdV_lt hr' hn ad e
              exact (hkeep _ (Nat.lt_of_lt_of_le b1 hk2.size) (x3 hn ad e).2).trans (hk2.block _ b1 (by have := (x3 hn ad e).1; have := hgw.out; omega))
            · exact hnew _ (Nat.lt_of_lt_of_le (rdV_lt hr' hn ad e) hk2.size) (x3 hn ad e).2
          · obtain rfl := List.mem_singleton.1 hp
            have hne : ∀ ad, A = some ad → u7.ownBlock ≠ some ad.block := fun ad e h => by have := hA.out ad e; have := hol _ h; omega
            refine ⟨A, n, c, rfl, rdV_heap hrd.out (fun hn ad e => hkeep _ (rdV_lt hrd.out hn ad e) (hne ad e)), hn1, hn2, fun hn ad e => ⟨by have := hA.out ad e; have := hk.size; omega, hnew _ (rdV_lt hrd.out hn ad e) (hne ad e)⟩⟩
end Go.Proofs.Ytegkclehijdbiaa.CR
