import Derived.Test.YtegkclehijdbiaaCR
import Derived.Deep.DeepCutAuto
import Derived.Deep.CutBlock
set_option linter.unusedSimpArgs false
set_option linter.unusedVariables false
namespace Go.Proofs.Ytegkclehijdbiaa.RD
open Go.RowKit Go.Proofs.YtegkclehijdbiaaW.PrintWords Go.Proofs.Ytegkclehijdbiaa.V1 Go.Proofs.Ytegkclehijdbiaa.V2 Go.Proofs.Ytegkclehijdbiaa.V3 Go.Proofs.Ytegkclehijdbiaa.VD Go.Proofs.Ytegkclehijdbiaa.N1 Go.Proofs.Ytegkclehijdbiaa.N2 Go.Proofs.Ytegkclehijdbiaa.N3 Go.Proofs.Ytegkclehijdbiaa.CA Go.Proofs.Ytegkclehijdbiaa.CB Go.Proofs.Ytegkclehijdbiaa.CC Go.Proofs.Ytegkclehijdbiaa.CD Go.Proofs.Ytegkclehijdbiaa.CE Go.Proofs.Ytegkclehijdbiaa.CF Go.Proofs.Ytegkclehijdbiaa.CG Go.Proofs.Ytegkclehijdbiaa.CH Go.Proofs.Ytegkclehijdbiaa.CR Go.Proofs.Ytegkclehijdbiaa.V8
open Go.Proofs.YtegkclehijdbiaaW.PrintLast hiding takeB

/-- One batch taken. -/
def stB (cols : List Cl) (st : Option (List UInt8)) : Bt × Option (List UInt8) :=
  (⟨(res (takeS 9223372036854775807) 0 st).1, (res (takeRows 32 8) [] (res (takeS 9223372036854775807) 0 st).2).1⟩,
   if (res (takeS 9223372036854775807) 0 st).1 < 1 ∨ fitsB cols (res (takeRows 32 8) [] (res (takeS 9223372036854775807) 0 st).2).1 = false then none else (res (takeRows 32 8) [] (res (takeS 9223372036854775807) 0 st).2).2)
/-- Batches, as far as they have been taken. -/
def moreB (cols : List Cl) : List Bt → Nat → Option (List UInt8) → List Bt × Option (List UInt8)
  | acc, 0, s => (acc, s)
  | acc, n + 1, none => (acc, none)
  | acc, n + 1, some l => moreB cols (acc ++ [(stB cols (some l)).1]) n (stB cols (some l)).2
theorem moreB_none (cols : List Cl) (acc : List Bt) (n : Nat) : moreB cols acc n none = (acc, none) := by cases n <;> rfl
theorem takeRs_le (cols : Int) : ∀ (n : Nat) {vs : List (List Vl)} {l r : List UInt8}, takeRs cols n l = some (vs, r) → r.length ≤ l.length
  | 0, vs, l, r, h => by simp only [takeRs, Option.some.injEq, Prod.mk.injEq] at h; rw [h.2]; exact Nat.le_refl _
  | n + 1, vs, l, r, h => by
    rw [takeRs] at h
    split at h
    · cases h
    · rename_i e
      split at h
      · cases h
      · rename_i e2
        simp only [Option.some.injEq, Prod.mk.injEq] at h
        have := takeRow_le e
        have := takeRs_le cols n e2
        rw [← h.2]; omega
theorem takeRows_le {most cols : Int} {vs : List (List Vl)} {l r : List UInt8} (h : takeRows most cols l = some (vs, r)) : r.length < l.length := by
  unfold takeRows at h
  split at h
  · cases h
  · rename_i e
    have := takeS_le e
    have := takeRs_le _ _ h
    omega
theorem stB_room {cols : List Cl} {l q : List UInt8} (h : (stB cols (some l)).2 = some q) : q.length < l.length := by
  unfold stB at h
  dsimp only at h
  split at h
  · cases h
  · obtain ⟨l1, e1, h1⟩ := res_some h
    obtain ⟨l0, e0, h0⟩ := res_some e1
    cases e0
    have := takeRows_le h1
    have := takeS_le h0
    omega
/-- A batch's cells. -/
def cBt (p : Value × Bt) : List Value := [.int .i64 p.2.id, p.1]
theorem cBt_len (p : Value × Bt) : (cBt p).length = 2 := rfl
instance : Inhabited (Value × Bt) := ⟨(.slice none 0 0, default)⟩
/-- A batch held in a slot of batches. -/
def SlotB (W : World) (base : Nat) (v u : Value) (b : Bt) : Prop := ∃ A n c B E, u = .slice A n c ∧ Dep W B E A n b.rows ∧ n ≤ c ∧ c ≤ 9223372036854775807 ∧ base ≤ B ∧ E ≤ W.heap.size ∧ (∀ k, v.ownBlock = some k → k < B ∨ E ≤ k) ∧ -9223372036854775808 ≤ b.id ∧ b.id ≤ 9223372036854775807
theorem rdB_nil (w : World) (A : Option Addr) : RdB w A 0 [] := ⟨rfl, by omega, fun h => absurd h (by omega)⟩
theorem rdB_from {W : World} {base : Nat} {v7 : Value} {acc : List (Value × Bt)} (hown : W.ownsRow base 38 2 v7 acc.length (acc.flatMap cBt)) (hs : ∀ p ∈ acc, SlotB W base v7 p.1 p.2) (hn : acc.length ≤ 9000000) : ∃ A c, v7 = .slice A acc.length c ∧ RdB W A acc.length (acc.map Prod.snd) ∧ acc.length ≤ c ∧ c ≤ 9223372036854775807 := by
  have hown' := hown
  rcases hown.2 with ⟨rfl, h0⟩ | ⟨g', cap, cur, rfl, hb, hc, h1, h2, _⟩
  · obtain rfl : acc = [] := List.eq_nil_of_length_eq_zero h0
    exact ⟨none, 0, rfl, rdB_nil _ _, by omega, by omega⟩
  · refine ⟨_, cap, rfl, ⟨by simp, by omega, fun _ => ⟨g', 0, rfl, fun i hi => ?_⟩⟩, h1, h2⟩
    have hel : el acc i = acc[i] := by simp [el, List.getD, hi]
    obtain ⟨A, n, c, B, E, hu, hr, hc1, hc2, _, _, _, i0, i1⟩ := hs _ (List.getElem_mem hi)
    have hc := fun j u hu => hown'.cells (g := g') rfl j u hu
    have k0 := hc (i * 2 + 0) (.int .i64 (el acc i).2.id) (by rw [flat_get cBt 2 cBt_len acc i 0 hi (by omega)]; rfl)
    have k1 := hc (i * 2 + 1) (el acc i).1 (by rw [flat_get cBt 2 cBt_len acc i 1 hi (by omega)]; rfl)
    rw [add_plain] at k0 k1
    rw [Nat.zero_add]
    rw [hel] at k0 k1
    rw [Nat.add_zero] at k0
    have e : el (acc.map Prod.snd) i = (acc[i]).2 := by simp [el, List.getD, hi]
    rw [e]
    exact ⟨A, n, c, k0, by rw [← hu]; exact k1, hr.rd, hc1, hc2, i0, i1⟩
theorem info38 : (Try.prog.info? 38).map (fun i => (i.zero, i.size, i.bytes)) = some (some (.agg #[.int .i64 0, .slice none 0 0]), 2, 32) := by kernel_rfl
/-- Read's loop. -/
def RbL (w1 : World) (g : Nat) (cols : List Cl) (R : List Bt × Option (List UInt8)) (kq : Nat) (v7 v8 : Value) (wr : World) : Prop := ∃ (acc : List (Value × Bt)) (s : Option (List UInt8)), v8 = .int .i64 (kq : Int) ∧ wr.ownsRow w1.heap.size 38 2 v7 acc.length (acc.flatMap cBt) ∧ (∀ p ∈ acc, SlotB wr w1.heap.size v7 p.1 p.2) ∧ Rs wr g s ∧ Keep1 g w1 wr ∧ moreB cols (acc.map Prod.snd) kq s = R ∧ (∀ l, s = some l → acc.length + l.length ≤ 8000000) ∧ acc.length ≤ 9000000 ∧ kq ≤ 9223372036854775807
/-- What Read leaves. -/
def StB (w : World) (p : List Bt × Option (List UInt8)) (e : Ending) (w' : World) : Prop := Below w.heap.size w w' ∧ ((ended p.2 = true ∧ ∃ A n c, e = .returned (.tuple #[.slice A n c, .int .i64 0]) ∧ RdB w' A n p.1) ∨ (ended p.2 = false ∧ e = .returned (.tuple #[.slice none 0 0, .int .i64 4])))
set_option maxRecDepth 8000 in
set_option maxHeartbeats 4000000 in
theorem read62 (s : ByteArray) (C : Option Addr) (n c : Nat) (cols : List Cl) (w : World) (hs : s.size ≤ 8000000) (hc : RdC w C n cols) :
    Calls Try.prog 62 #[.string s, .slice C n c] w (StB w (moreB cols [] (res (takeS 1048576) 0 (some s.data.toList)).1.toNat (res (takeS 1048576) 0 (some s.data.toList)).2)) := by
  obtain ⟨i0, hi, hzz⟩ := Option.map_eq_some_iff.1 info38
  simp only [Prod.mk.injEq] at hzz
  obtain ⟨hz0, hz1, hz2⟩ := hzz
  replace hi := Lib.hid hi
  replace hz0 := Lib.hid hz0
  replace hz1 := Lib.hid hz1
  replace hz2 := Lib.hid hz2
  replace hc := Lib.hid hc
  have hRd := Lib.hid (read44 s w (by omega))
  have hSz := Lib.hid (fun g W hW => size71 g 1048576 (some s.data.toList) W hW (by omega) (by omega))
  obtain ⟨s0, s1⟩ := takeS_bd 1048576 (some s.data.toList) (by omega)
  have hroom := Lib.hid (takeS_room (most := 1048576) (st := some s.data.toList) (B := 8000000) (fun l e => by cases e; rw [Array.length_toList]; exact hs))
  generalize res (takeS 1048576) 0 (some s.data.toList) = p at *
  obtain ⟨kn, st1⟩ := p
  dsimp only at *
  obtain ⟨kq, rfl⟩ : ∃ x : Nat, kn = (x : Int) := ⟨kn.toNat, by omega⟩
  rw [Int.toNat_natCast]
  have hkq : kq ≤ 9223372036854775807 := by omega
  obtain ⟨R, hR⟩ : ∃ R, R = moreB cols [] kq st1 := ⟨_, rfl⟩
  rw [← hR]
  replace hR := Lib.hid hR
  go_enter Try.func62, Try.ntmps62
  go_wp2_with fail
  (with_reducible refine hRd.out.mono ?_)
  rintro e W1 ⟨g, rfl, hg, hR1, hB1⟩
  clear hRd
  have hgl := hR1.lt
  replace hSz := Lib.hid (hSz.out g W1 hR1)
  go_wp2_with fail
  (with_reducible refine hSz.out.mono ?_)
  rintro e W2 ⟨rfl, hs2, hk2⟩
  replace hs2 := Lib.hid hs2
  clear hSz hR1
  go_wp2
  go_loopg [7, 8] kq (fun k v7 v8 wr => RbL W1 g cols R k v7 v8 wr)
  case atStart =>
    exact ⟨[], st1, rfl, CF.own_nil _ _ _ _, (fun v hv => by cases hv), hs2.out, hk2, hR.out.symm, (fun l hl => by have := hroom.out l hl; simp only [List.length_nil]; omega), by simp, hkq⟩
  case round =>
    obtain ⟨acc, s, rfl, hown, hfit, hs, hk, hm, hl, hla, hb⟩ := hrel
    replace hown := Lib.hid hown
    replace hs := Lib.hid hs
    replace hfit := Lib.hid hfit
    replace hm := Lib.hid hm
    replace hl := Lib.hid hl
    have hBw : Below w.heap.size w wr := hB1.trans (hk.to_below hg hB1.size)
    cases gk with
    | zero =>
      have hRn : Hid (R = (acc.map Prod.snd, s)) := by show _ = _; rw [← hm.out]; rfl
      have hEnd := Lib.hid (end73 g s wr hs.out)
      go_wp2_with fail
      (with_reducible refine hEnd.out.mono ?_)
      rintro e W3 ⟨rfl, rfl⟩
      clear hEnd
      cases he : ended s with
      | true =>
        obtain ⟨A, c', rfl, hrd, h1, h2⟩ := rdB_from hown.out hfit.out hla
        go_wp2
        go_ret2
        rw [hRn.out]
        exact ⟨hBw, .inl ⟨he, A, _, c', rfl, hrd⟩⟩
      | false =>
        go_wp2
        go_ret2
        rw [hRn.out]
        exact ⟨hBw, .inr ⟨he, rfl⟩⟩
    | succ gk =>
      have c1 : (0 : Int) < ((gk + 1 : Nat) : Int) := by omega
      cases s with
      | none =>
        have hRn : Hid (R = (acc.map Prod.snd, none)) := by show _ = _; rw [← hm.out]; rfl
        go_wp2_with fail
        (with_reducible refine (good52 g _ _ hs.out).mono ?_)
        rintro e W3 ⟨rfl, rfl⟩
        dsimp only [Option.isSome]
        go_wp2_with fail
        (with_reducible refine (end73 g none wr hs.out).mono ?_)
        rintro e W3 ⟨rfl, rfl⟩
        dsimp only [ended]
        go_wp2
        go_ret2
        rw [hRn.out]
        exact ⟨hBw, .inr ⟨rfl, rfl⟩⟩
      | some l =>
        have hll := hl.out l rfl
        go_wp2_with fail
        (with_reducible refine (good52 g _ _ hs.out).mono ?_)
        rintro e W3 ⟨rfl, rfl⟩
        dsimp only [Option.isSome]
        have hst : Hid (moreB cols (acc.map Prod.snd) (gk + 1) (some l) = moreB cols (acc.map Prod.snd ++ [(stB cols (some l)).1]) gk (stB cols (some l)).2) := rfl
        have hrm : Hid (∀ q, (stB cols (some l)).2 = some q → q.length < l.length) := fun q hq => stB_room hq
        have hdef : Hid (stB cols (some l) = (⟨(res (takeS 9223372036854775807) 0 (some l)).1, (res (takeRows 32 8) [] (res (takeS 9223372036854775807) 0 (some l)).2).1⟩, if (res (takeS 9223372036854775807) 0 (some l)).1 < 1 ∨ fitsB cols (res (takeRows 32 8) [] (res (takeS 9223372036854775807) 0 (some l)).2).1 = false then none else (res (takeRows 32 8) [] (res (takeS 9223372036854775807) 0 (some l)).2).2)) := rfl
        generalize stB cols (some l) = ST at *
        have hS := Lib.hid (size71 g 9223372036854775807 (some l) wr hs.out (by omega) (by omega))
        obtain ⟨t0, t1⟩ := takeS_bd 9223372036854775807 (some l) (by omega)
        have hroomS := Lib.hid (takeS_room (most := 9223372036854775807) (st := some l) (B := 9000000) (fun l' e => by cases e; omega))
        generalize res (takeS 9223372036854775807) 0 (some l) = p1 at *
        obtain ⟨id, sq⟩ := p1
        dsimp only at t0 t1 hdef hS hroomS
        have hRows := Lib.hid (fun W hW => rows50f g 32 8 sq W hW (by omega) (by omega) (by omega) (by omega) hroomS.out)
        generalize res (takeRows 32 8) [] sq = p2 at *
        obtain ⟨rows, sr⟩ := p2
        dsimp only at hdef hRows
        go_wp2_with fail
        (with_reducible refine hS.out.mono ?_)
        rintro e W3 ⟨rfl, hs3, hk3⟩
        clear hS
        have hRo := Lib.hid (hRows.out W3 hs3)
        clear hRows
        go_wp2_with fail
        (with_reducible refine hRo.out.mono ?_)
        rintro e W4 ⟨A, n4, c4, rfl, hdep, hn1, hn2, hs4, hk4⟩
        clear hRo hs3
        have hk34 := hk3.trans hk4
        have hE34 : wr.heap.size ≤ W3.heap.size := hk3.size
        have hgW4 : g < W4.heap.size := hs4.lt
        go_upto_region 7 with fail
        have PY : Below W4.heap.size W4 (W4.alloc (.cells #[.int .i64 id, .slice A n4 c4] 38)) := by go_grown
        have y0 : (W4.alloc (.cells #[.int .i64 id, .slice A n4 c4] 38)).heap[W4.heap.size]? = some (.cells #[.int .i64 id, .slice A n4 c4] 38 (0, 0)) := heap_alloc_new W4 _
        have f0 : (W4.alloc (.cells #[.int .i64 id, .slice A n4 c4] 38)).cell? ⟨W4.heap.size, 0, none⟩ = some (.int .i64 id) := (blk_cell y0 0).trans rfl
        have f1 : (W4.alloc (.cells #[.int .i64 id, .slice A n4 c4] 38)).cell? ⟨W4.heap.size, 1, none⟩ = some (.slice A n4 c4) := (blk_cell y0 1).trans rfl
        have hs5 := Lib.hid (hs4.below PY)
        have hkY : Keep1 g wr (W4.alloc (.cells #[.int .i64 id, .slice A n4 c4] 38)) := hk34.trans (Keep1.below PY)
        have hdY : Dep (W4.alloc (.cells #[.int .i64 id, .slice A n4 c4] 38)) W3.heap.size W4.heap.size A n4 rows := hdep.move (fun b _ h1 => PY.block b h1)
        have hszY : W4.heap.size < (W4.alloc (.cells #[.int .i64 id, .slice A n4 c4] 38)).heap.size := blk_lt y0
        have hcY := Lib.hid (rdC_below hc.out (hBw.trans (hkY.to_below (by omega) hBw.size)))
        clear y0 PY hdep hs4
        generalize hE4 : W4.heap.size = E4 at *
        generalize W4.alloc (.cells #[.int .i64 id, .slice A n4 c4] 38) = Y at *
        have hgY : g ≠ E4 := by omega
        obtain ⟨bad, hbad⟩ : ∃ b : Bool, b = (decide (id < 1) || !(fitsB cols rows)) := ⟨_, rfl⟩
        replace hbad := Lib.hid hbad
        go_cut [36] (fun v wx => v = .bool bad ∧ Below Y.heap.size Y wx)
        case first =>
          by_cases hid : id < 1
          · have hb1 : bad = true := by rw [hbad.out]; simp [hid]
            subst hb1
            go_wp2
            go_meet
            case rel => exact ⟨rfl, Below.refl _ _⟩
          · have hF := Lib.hid (fits22 C A n c n4 c4 cols rows Y hcY.out hdY.rd)
            have hb1 : Hid (bad = !(fitsB cols rows)) := by show _ = _; rw [hbad.out]; simp [hid]
            go_wp2_with fail
            (with_reducible refine hF.out.mono ?_)
            rintro e Z ⟨rfl, hB⟩
            clear hF
            go_wp2
            go_meet
            case rel => exact ⟨by rw [hb1.out], hB⟩
        case rest =>
          obtain ⟨rfl, hBc⟩ := hcut
          have f0 := pw_cell_below hBc f0
          have f1 := pw_cell_below hBc f1
          have hs6 := hs5.out.below hBc
          have hk6 := hkY.trans (Keep1.below hBc)
          have hd6 := hdY.move (fun b _ h1 => hBc.block b (by omega))
          have hsz6 : E4 < wc.heap.size := Nat.lt_of_lt_of_le hszY hBc.size
          clear hs5 hkY hdY hszY hcY hBc
          have hST2 : Hid (ST = (⟨id, rows⟩, if bad = true then none else sr)) := by
            show _ = _
            rw [hdef.out, hbad.out]
            congr 1
            by_cases h1 : id < 1 <;> cases h2 : fitsB cols rows <;> simp [h1, h2]
          clear hdef hbad
          go_upto_if 36 with fail
          go_cut [] (fun wx => Rs wx g (if bad = true then none else sr) ∧ Keep1 g wc wx)
          case first =>
            cases bad with
            | true =>
              go_wp2_with fail
              (with_reducible refine (fail87 g _ _ hs6).mono ?_)
              rintro e Z ⟨rfl, hs7, hk7⟩
              go_wp2
              go_meet
              case rel => exact ⟨hs7, hk7⟩
            | false =>
              go_wp2
              go_meet
              case rel => exact ⟨hs6, Keep1.refl _ _⟩
          case rest =>
            obtain ⟨hs7, hk7⟩ := hcut
            have f0 := Keep1.cell hk7 f0 (by show E4 ≠ g; omega)
            have f1 := Keep1.cell hk7 f1 (by show E4 ≠ g; omega)
            have hk8 := hk6.trans hk7
            have hgW : g < wr.heap.size := Nat.lt_of_lt_of_le hgl hk.size
            have hd8 : Dep wc W3.heap.size E4 A n4 rows := hd6.move (fun b h0 h1 => hk7.block b (by omega) (by omega))
            have hsz8 : E4 < wc.heap.size := Nat.lt_of_lt_of_le hsz6 hk7.size
            have hE3 : W3.heap.size ≤ E4 := by rw [← hE4]; exact hk4.size
            obtain ⟨ss, hss⟩ : ∃ x, x = (if bad = true then none else sr) := ⟨_, rfl⟩
            rw [← hss] at hs7 hST2
            replace hs7 := Lib.hid hs7
            clear hs6 hk7 hk6 hd6 hsz6 hss
            have P2 : Below wc.heap.size wc (wc.alloc (.cells #[.int .i64 id, .slice A n4 c4] 38)) := by go_grown
            have hown2 : Hid ((wc.alloc (.cells #[.int .i64 id, .slice A n4 c4] 38)).ownsRow W1.heap.size 38 2 u7 acc.length (acc.flatMap cBt)) := own_keep hown.out (hk8.trans (Keep1.below P2)) hgl
            have e2 : (wc.alloc (.cells #[.int .i64 id, .slice A n4 c4] 38)).heap[wc.heap.size]? = some (.cells #[.int .i64 id, .slice A n4 c4] 38 (0, 0)) := heap_alloc_new wc _
            have hnews : Hid (∀ j u, (cBt (.slice A n4 c4, ⟨id, rows⟩))[j]? = some u → (wc.alloc (.cells #[.int .i64 id, .slice A n4 c4] 38)).cell? ((⟨wc.heap.size, 0, none⟩ : Addr).add j) = some u) := by
              intro j u hu
              rw [add_plain, blk_cell e2]
              simpa [cBt] using hu
            clear e2
            have c2 := Lib.hid hkq
            have hbs : W1.heap.size ≤ (wc.alloc (.cells #[.int .i64 id, .slice A n4 c4] 38)).heap.size := by have := hk.size; have := hk8.size; have := P2.size; omega
            go_wp2_with (at_builtin; refine wpList_append_own_at (wc.alloc (.cells #[.int .i64 id, .slice A n4 c4] 38)) rfl (.tmp 39) (.tmp 41) 25 rfl W1.heap.size 38 i0 (.agg #[.int .i64 0, .slice none 0 0]) 2 32 Try.underlying25 hi.out hz0.out hz1.out hz2.out rfl (by omega) u7 acc.length (acc.flatMap cBt) rfl hown2.out ⟨wc.heap.size, 0, none⟩ 1 1 (cBt (.slice A n4 c4, ⟨id, rows⟩)) rfl rfl hnews.out (by intro u hu; simp only [cBt, List.mem_cons, List.not_mem_nil, or_false] at hu; rcases hu with rfl | rfl <;> rfl) (by simp only [maxLen]; omega) (by omega) hbs ?_; intro v1 w1 hown1 hg1 _ hob)
            have hgu : ∀ k, u7.ownBlock = some k → W1.heap.size ≤ k := fun k e => own_base hown2.out k e
            have P3 : Below (g + 1) (wc.alloc (.cells #[.int .i64 id, .slice A n4 c4] 38)) w1 := (Below.refl _ _).grown hg1 (by have := hs7.out.lt; have := P2.size; omega) (fun k e => by have := hgu k e; omega)
            have K3 : Keep1 g W1 w1 := Keep1.grown (hk.trans (hk8.trans (Keep1.below P2))) hg1 hgu
            have hol : ∀ k, u7.ownBlock = some k → k < wr.heap.size := fun k e => own_lt hown.out k e
            have hwcs : wr.heap.size ≤ wc.heap.size := hk8.size
            have hkeep : ∀ b, b < wr.heap.size → b ≠ g → u7.ownBlock ≠ some b → w1.heap[b]? = wr.heap[b]? := fun b hb hne ho => (hg1.block b (by have := P2.size; omega) (fun e => ho e.symm)).trans ((P2.block b (by omega)).trans (hk8.block b hb hne))
            have hsz1 : wc.heap.size ≤ w1.heap.size := Nat.le_trans P2.size hg1.size
            go_roundg gk
            case measure => omega
            case rel =>
              refine ⟨acc ++ [(.slice A n4 c4, ⟨id, rows⟩)], ss, by congr 1, by simpa using hown1, fun p hp => ?_, (hs7.out.below P2).low P3, K3, by rw [List.map_append, ← hm.out, hst.out, hST2.out]; rfl, fun q hq => by have := hrm.out q (by rw [hST2.out]; exact hq); simp only [List.length_append, List.length_cons, List.length_nil]; omega, by simp only [List.length_append, List.length_cons, List.length_nil]; omega, by omega⟩
              rcases List.mem_append.1 hp with hp | hp
              · obtain ⟨A', n', c', B, E, e1, hd, x1, x2, x3, x4, x5, j0, j1⟩ := hfit.out p hp
                refine ⟨A', n', c', B, E, e1, hd.move (fun b h0 h1 => hkeep b (by omega) (by omega) (fun e => by have := x5 b e; omega)), x1, x2, x3, by omega, fun k e => ?_, j0, j1⟩
                rcases hob with h | h
                · exact x5 k (h.symm.trans e)
                · rw [h] at e; injection e with e; right; have := P2.size; omega
              · obtain rfl := List.mem_singleton.1 hp
                refine ⟨A, n4, c4, W3.heap.size, E4, rfl, hd8.move (fun b h0 h1 => ?_), hn1, hn2, by have := hk.size; omega, by omega, fun k e => ?_, by show -9223372036854775808 ≤ id; omega, t1⟩
                · exact (hg1.block b (by have := P2.size; omega) (fun e => by have := hol b e.symm; omega)).trans (P2.block b (by omega))
                · rcases hob with h | h
                  · left; have := hol k (h.symm.trans e); omega
                  · rw [h] at e; injection e with e; right; have := P2.size; omega
end Go.Proofs.Ytegkclehijdbiaa.RD
