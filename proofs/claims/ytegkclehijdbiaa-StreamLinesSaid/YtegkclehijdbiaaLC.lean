import Derived.Test.YtegkclehijdbiaaLB
set_option linter.unusedSimpArgs false
set_option linter.unusedVariables false
namespace Go.Proofs.Ytegkclehijdbiaa.LC
open Go.RowKit Go.Proofs.YtegkclehijdbiaaW.PrintWords Go.Proofs.Ytegkclehijdbiaa.V1 Go.Proofs.Ytegkclehijdbiaa.V2 Go.Proofs.Ytegkclehijdbiaa.V3 Go.Proofs.Ytegkclehijdbiaa.V8 Go.Proofs.Ytegkclehijdbiaa.VD Go.Proofs.Ytegkclehijdbiaa.CA Go.Proofs.Ytegkclehijdbiaa.CG Go.Proofs.Ytegkclehijdbiaa.CN Go.Proofs.Ytegkclehijdbiaa.CR Go.Proofs.Ytegkclehijdbiaa.RD Go.Proofs.Ytegkclehijdbiaa.LA Go.Proofs.Ytegkclehijdbiaa.LB Go.Proofs.Ytegkclehijdbiaa.SN Go.Proofs.Ytegkclehijdbiaa.W1 Go.Proofs.Ytegkclehijdbiaa.W2 Go.Proofs.Ytegkclehijdbiaa.W6
open Go.Proofs.YtegkclehijdbiaaW.PrintLast hiding takeB

/-- What Index answers. -/
def IxR (ids : List Int) (x : Int) (w : World) (e : Ending) (w' : World) : Prop := ∃ i : Int, e = .returned (.int .i64 i) ∧ decide (0 ≤ i) = ids.contains x ∧ w = w'
set_option maxHeartbeats 1000000 in
theorem index103 (A : Option Addr) (n c : Nat) (ids : List Int) (x : Int) (w : World) (hr : RdN w A n ids) : Calls Try.prog 103 #[.slice A n c, .int .i64 x] w (IxR ids x w) := by
  have hnb : n ≤ 9223372036854775807 := hr.2.1
  replace hr := Lib.hid hr
  go_enter Try.func103, Try.ntmps103
  go_wp2
  go_loopg [8] n (fun kq i wr => ∃ k : Nat, i = .int .i64 (k : Int) ∧ k ≤ n ∧ kq = n - k ∧ wr = w ∧ ∀ j, j < k → el ids j ≠ x)
  case atStart => exact ⟨0, rfl, by omega, by omega, rfl, fun j hj => by omega⟩
  case round =>
    obtain ⟨k, rfl, hk, rfl, rfl, hall⟩ := hrel
    replace hall := Lib.hid hall
    by_cases hlt : k < n
    · obtain ⟨b, o, rfl, ⟨c0, y0, y1⟩, q2⟩ := hr.out.at_ hlt
      have q0 : (0 : Int) ≤ (k : Int) := by omega
      have q1 : (k : Int) < (n : Int) := by omega
      rw [Nat.mul_one] at c0 q2
      by_cases he : x = el ids k
      · have he2 := Lib.hid he
        have hb : (x == el ids k) = true := by simpa using he
        go_wp2
        go_ret
        refine ⟨(k : Int), rfl, ?_, rfl⟩
        rw [decide_eq_true (by omega)]
        symm
        rw [List.contains_iff_mem, he2.out]
        have hkl : k < ids.length := by rw [hr.out.1]; exact hlt
        have : el ids k = ids[k] := by simp [el, List.getD, hkl]
        rw [this]; exact List.getElem_mem _
      · have he2 := Lib.hid he
        have hb : (x == el ids k) = false := by simpa using he
        go_wp2
        go_roundg (n - (k + 1))
        case measure => omega
        case rel =>
          refine ⟨k + 1, by congr 1, by omega, rfl, rfl, fun j hj => ?_⟩
          rcases Nat.lt_or_ge j k with h | h
          · exact hall.out j h
          · obtain rfl : j = k := by omega
            exact fun h => he2.out h.symm
    · obtain rfl : k = n := by omega
      go_wp2
      go_ret
      refine ⟨-1, rfl, ?_, rfl⟩
      rw [decide_eq_false (by omega)]
      symm
      rw [← Bool.not_eq_true, List.contains_iff_mem]
      intro hm
      obtain ⟨i, hi, e⟩ := el_mem hm
      exact hall.out i (by rw [← hr.out.1]; exact hi) e.symm
set_option maxHeartbeats 400000 in
theorem contains92 (A : Option Addr) (n c : Nat) (ids : List Int) (x : Int) (w : World) (hr : RdN w A n ids) : Calls Try.prog 92 #[.slice A n c, .int .i64 x] w (SameW (.bool (ids.contains x)) w) := by
  go_enter Try.func92, Try.ntmps92
  go_wp2_with fail
  (with_reducible refine (index103 A n c ids x w hr).mono ?_)
  rintro e W1 ⟨i, rfl, hi, rfl⟩
  replace hi := Lib.hid hi
  go_wp2
  go_ret
  exact ⟨by rw [← hi.out]; rfl, rfl⟩
/-- Which batches are asked for. -/
def inB (ids : List Int) (b : Bt) : Bool := ids.isEmpty || ids.contains b.id
theorem filter_take {α : Type} [Inhabited α] (f : α → Bool) (l : List α) (k : Nat) (h : k < l.length) : (l.take (k + 1)).filter f = (l.take k).filter f ++ (if f (el l k) = true then [el l k] else []) := by
  rw [List.take_succ_eq_append_getElem h, List.filter_append]
  have : el l k = l[k] := by simp [el, List.getD, h]
  rw [this]
  congr 1
  by_cases hf : f l[k] = true
  · simp [hf]
  · simp [hf]
/-- Batches' loop. -/
def BtL (w : World) (bs : List Bt) (ids : List Int) (n kq : Nat) (v5 i : Value) (wr : World) : Prop := ∃ (k : Nat) (acc : List (Value × Bt)), i = .int .i64 (k : Int) ∧ k ≤ n ∧ kq = n - k ∧ wr.ownsRow w.heap.size 38 2 v5 acc.length (acc.flatMap cBt) ∧ (∀ p ∈ acc, SlotB wr w.heap.size v5 p.1 p.2) ∧ acc.map Prod.snd = (bs.take k).filter (inB ids) ∧ acc.length ≤ k ∧ Below w.heap.size w wr
/-- What Batches leaves. -/
def BaR (w : World) (bs : List Bt) (e : Ending) (w' : World) : Prop := ∃ A n c, e = .returned (.slice A n c) ∧ RdB w' A n bs ∧ n ≤ c ∧ c ≤ 9223372036854775807 ∧ Below w.heap.size w w'
set_option maxRecDepth 8000 in
set_option maxHeartbeats 4000000 in
theorem batches60z {wB : World} (g : Nat) (nm : ByteArray) (C : Option Addr) (nc dc : Nat) (room : Int) (v : Value) (acc : List (Value × Bt)) (X : Nat → Prop) (I : Option Addr) (ci : Nat) (w : World) (h : Ln wB w g nm C nc dc room v acc X) (hlen : acc.length ≤ 1000000) : Calls Try.prog 60 #[.pointer (some ⟨g, 0, none⟩), .slice I 0 ci] w (BaR w ((acc.map Prod.snd).filter (inB []))) := by
  obtain ⟨i0, hi, hzz⟩ := Option.map_eq_some_iff.1 info38
  simp only [Prod.mk.injEq] at hzz
  obtain ⟨hz0, hz1, hz2⟩ := hzz
  replace hi := Lib.hid hi
  replace hz0 := Lib.hid hz0
  replace hz1 := Lib.hid hz1
  replace hz2 := Lib.hid hz2
  obtain ⟨A, c, rfl, hrd, hc1, hc2⟩ := h.rd
  have f2 : w.cell? ⟨g, 2, none⟩ = some (.slice A acc.length c) := (blk_cell h.blk 2).trans rfl
  have hfit : Hid (∀ b ∈ acc.map Prod.snd, b.rows.length ≤ 32 ∧ ∀ r ∈ b.rows, r.length ≤ 1000000) := fun b hb => by
    obtain ⟨p, hp, rfl⟩ := List.mem_map.1 hb
    exact h.fit p hp
  have hbl : Hid ((acc.map Prod.snd).length = acc.length) := List.length_map _
  generalize acc.map Prod.snd = bs at *
  generalize acc.length = n at *
  replace hrd := Lib.hid hrd
  clear h
  go_enter Try.func60, Try.ntmps60
  go_wp2
  clear f2
  go_loopg [5, 15] n (fun kq v5 i wr => BtL w bs [] n kq v5 i wr)
  case atStart => exact ⟨0, [], rfl, by omega, by omega, CF.own_nil _ _ _ _, (fun p hp => by cases hp), by simp, by simp, Below.refl _ _⟩
  case round =>
    obtain ⟨k, ac, rfl, hk, rfl, hown, hsl, hmp, hal, hB⟩ := hrel
    replace hown := Lib.hid hown
    replace hsl := Lib.hid hsl
    replace hmp := Lib.hid hmp
    by_cases hlt : k < n
    · obtain ⟨b, o, rfl, ⟨A1, n1, c1, z0, z1, hrr, hx1, hx2, j0, j1⟩, q2⟩ := (rdB_below hrd.out hB).at_ hlt
      have q0 : (0 : Int) ≤ (k : Int) := by omega
      have q1 : (k : Int) < (n : Int) := by omega
      have hst := Lib.hid (filter_take (inB []) bs k (by rw [hbl.out]; exact hlt))
      have hft : (el bs k).rows.length ≤ 32 ∧ ∀ r ∈ (el bs k).rows, r.length ≤ 1000000 := by
        have hkl : k < bs.length := by rw [hbl.out]; exact hlt
        have e : el bs k = bs[k] := by simp [el, List.getD, hkl]
        rw [e]; exact hfit.out _ (List.getElem_mem _)
      generalize el bs k = x at *
      obtain ⟨id, rows⟩ := x
      dsimp only at z0 hrr j0 j1 hft
      have hn1 : n1 ≤ 1000000 := by have := hrr.1; omega
      have hrow := Lib.hid hft.2
      replace hrr := Lib.hid hrr
      clear hft
      have PY : Below wr.heap.size wr (wr.alloc (.cells #[.int .i64 id, .slice A1 n1 c1] 38)) := by go_grown
      have y0 : (wr.alloc (.cells #[.int .i64 id, .slice A1 n1 c1] 38)).heap[wr.heap.size]? = some (.cells #[.int .i64 id, .slice A1 n1 c1] 38 (0, 0)) := heap_alloc_new wr _
      have f0 : (wr.alloc (.cells #[.int .i64 id, .slice A1 n1 c1] 38)).cell? ⟨wr.heap.size, 0, none⟩ = some (.int .i64 id) := (blk_cell y0 0).trans rfl
      have f1 : (wr.alloc (.cells #[.int .i64 id, .slice A1 n1 c1] 38)).cell? ⟨wr.heap.size, 1, none⟩ = some (.slice A1 n1 c1) := (blk_cell y0 1).trans rfl
      clear y0
      go_upto_region 6 with fail
      clear z0 z1
      generalize hbk : wr.heap.size = bk at *
      generalize wr.alloc (.cells #[.int .i64 id, .slice A1 n1 c1] 38) = Y at *
      have hBY := hB.trans (PY.mono (by rw [← hbk]; exact hB.size))
      obtain ⟨hit, hhit⟩ : ∃ q : Bool, q = inB [] ⟨id, rows⟩ := ⟨_, rfl⟩
      replace hhit := Lib.hid hhit
      go_cut [27] (fun t wx => t = .bool hit ∧ wx = Y)
      case first =>
        have hh : hit = true := by rw [hhit.out]; rfl
        subst hh
        go_wp2
        go_meet
        case rel => exact ⟨rfl, rfl⟩
      case rest =>
        obtain ⟨rfl, rfl⟩ := hcut
        cases hit with
        | false =>
          have hst2 : Hid ((bs.take (k + 1)).filter (inB []) = (bs.take k).filter (inB [])) := by show _ = _; rw [hst.out, ← hhit.out]; simp
          clear f0 f1
          go_wp2
          go_roundg (n - (k + 1))
          case measure => omega
          case rel =>
            refine ⟨k + 1, ac, by congr 1, by omega, rfl, LA.own_move hown.out (fun q e => PY.block q (by have := own_lt hown.out q e; omega)), fun p hp => ?_, by rw [hmp.out, hst2.out], by omega, hBY⟩
            obtain ⟨A', n', c', B, E, e1, hd, x1, x2, x3, x4, x5, x6⟩ := hsl.out p hp
            have hps := PY.size
            exact ⟨A', n', c', B, E, e1, hd.move (fun q h0 h1 => PY.block q (by omega)), x1, x2, x3, by omega, x5, x6⟩
        | true =>
          have hst2 : Hid ((bs.take (k + 1)).filter (inB []) = (bs.take k).filter (inB []) ++ [⟨id, rows⟩]) := by show _ = _; rw [hst.out, ← hhit.out]; simp
          have hCp := Lib.hid (copied91 id A1 n1 c1 rows wc (rdR_below hrr.out (by rw [hbk]; exact PY)) hn1 hrow.out)
          go_wp2_with fail
          (with_reducible refine hCp.out.mono ?_)
          rintro e W2 ⟨A2, n2, c2, rfl, hdep, hd1, hd2, hB2⟩
          clear hCp f0 f1
          have hbW : bk ≤ wc.heap.size := by rw [← hbk]; exact PY.size
          have hBW := hBY.trans (hB2.mono hBY.size)
          have P2 : Below W2.heap.size W2 (W2.alloc (.cells #[.int .i64 id, .slice A2 n2 c2] 38)) := by go_grown
          have hall : ∀ q, q < bk → (W2.alloc (.cells #[.int .i64 id, .slice A2 n2 c2] 38)).heap[q]? = wr.heap[q]? := fun q hq => (P2.block q (by have := hB2.size; omega)).trans ((hB2.block q (by omega)).trans (PY.block q hq))
          have hown2 : Hid ((W2.alloc (.cells #[.int .i64 id, .slice A2 n2 c2] 38)).ownsRow w.heap.size 38 2 u5 ac.length (ac.flatMap cBt)) := LA.own_move hown.out (fun q e => hall q (by have := own_lt hown.out q e; omega))
          have e2 : (W2.alloc (.cells #[.int .i64 id, .slice A2 n2 c2] 38)).heap[W2.heap.size]? = some (.cells #[.int .i64 id, .slice A2 n2 c2] 38 (0, 0)) := heap_alloc_new W2 _
          have hnews : Hid (∀ j u, (cBt (.slice A2 n2 c2, ⟨id, rows⟩))[j]? = some u → (W2.alloc (.cells #[.int .i64 id, .slice A2 n2 c2] 38)).cell? ((⟨W2.heap.size, 0, none⟩ : Addr).add j) = some u) := by
            intro j u hu
            rw [add_plain, blk_cell e2]
            simpa [cBt] using hu
          clear e2
          have hbs : w.heap.size ≤ (W2.alloc (.cells #[.int .i64 id, .slice A2 n2 c2] 38)).heap.size := Nat.le_trans hBW.size P2.size
          replace hdep := Lib.hid hdep
          go_wp2_with (at_builtin; refine wpList_append_own_at (W2.alloc (.cells #[.int .i64 id, .slice A2 n2 c2] 38)) rfl (.tmp 28) (.tmp 31) 25 rfl w.heap.size 38 i0 (.agg #[.int .i64 0, .slice none 0 0]) 2 32 Try.underlying25 hi.out hz0.out hz1.out hz2.out rfl (by omega) u5 ac.length (ac.flatMap cBt) rfl hown2.out ⟨W2.heap.size, 0, none⟩ 1 1 (cBt (.slice A2 n2 c2, ⟨id, rows⟩)) rfl rfl hnews.out (by intro u hu; simp only [cBt, List.mem_cons, List.not_mem_nil, or_false] at hu; rcases hu with rfl | rfl <;> rfl) (by simp only [maxLen]; omega) (by omega) hbs ?_; intro v1 w1 hown1 hg1 _ hob)
          have hol : ∀ q, u5.ownBlock = some q → q < bk := fun q e => by have := own_lt hown.out q e; omega
          have hob1 : ∀ q, u5.ownBlock = some q → w.heap.size ≤ q := fun q e => own_base hown.out q e
          have hps := P2.size
          have hB2s := hB2.size
          have hBs := hB.size
          have hgs := hg1.size
          have hBf : Below w.heap.size w w1 := (hBW.trans (P2.mono hBW.size)).grown hg1 hbs (fun q e => hob1 q e)
          go_roundg (n - (k + 1))
          case measure => omega
          case rel =>
            refine ⟨k + 1, ac ++ [(.slice A2 n2 c2, ⟨id, rows⟩)], by congr 1, by omega, rfl, by simpa using hown1, fun p hp => ?_, by rw [List.map_append, hmp.out, hst2.out]; rfl, by simp only [List.length_append, List.length_cons, List.length_nil]; omega, hBf⟩
            rcases List.mem_append.1 hp with hp | hp
            · obtain ⟨A', n', c', B, E, e1, hd, x1, x2, x3, x4, x5, x6⟩ := hsl.out p hp
              refine ⟨A', n', c', B, E, e1, hd.move (fun q h0 h1 => (hg1.block q (by omega) (fun e => by have := x5 q e.symm; omega)).trans (hall q (by omega))), x1, x2, x3, by omega, fun q e => ?_, x6⟩
              rcases hob with h | h
              · exact x5 q (h.symm.trans e)
              · rw [h] at e; injection e with e; right; omega
            · obtain rfl := List.mem_singleton.1 hp
              refine ⟨A2, n2, c2, wc.heap.size, W2.heap.size, rfl, hdep.out.move (fun q h0 h1 => (hg1.block q (by omega) (fun e => by have := hol q e.symm; omega)).trans (P2.block q h1)), hd1, hd2, by omega, by omega, fun q e => ?_, j0, j1⟩
              rcases hob with h | h
              · left; have := hol q (h.symm.trans e); omega
              · rw [h] at e; injection e with e; right; omega
    · obtain rfl : k = n := by omega
      obtain ⟨A9, c9, rfl, hrd9, h91, h92⟩ := rdB_from hown.out hsl.out (by omega)
      rw [hmp.out, List.take_of_length_le (by rw [hbl.out]; exact Nat.le_refl _)] at hrd9
      replace hrd9 := Lib.hid hrd9
      go_wp2
      go_ret
      exact ⟨A9, _, c9, rfl, hrd9.out, h91, h92, hB⟩
set_option maxRecDepth 8000 in
set_option maxHeartbeats 4000000 in
theorem batches60s {wB : World} (g : Nat) (nm : ByteArray) (C : Option Addr) (nc dc : Nat) (room : Int) (v : Value) (acc : List (Value × Bt)) (X : Nat → Prop) (I : Option Addr) (ni ci : Nat) (ids : List Int) (w : World) (h : Ln wB w g nm C nc dc room v acc X) (hlen : acc.length ≤ 1000000) (hr : RdN w I ni ids) (h0 : 0 < ni) : Calls Try.prog 60 #[.pointer (some ⟨g, 0, none⟩), .slice I ni ci] w (BaR w ((acc.map Prod.snd).filter (inB ids))) := by
  obtain ⟨i0, hi, hzz⟩ := Option.map_eq_some_iff.1 info38
  simp only [Prod.mk.injEq] at hzz
  obtain ⟨hz0, hz1, hz2⟩ := hzz
  replace hi := Lib.hid hi
  replace hz0 := Lib.hid hz0
  replace hz1 := Lib.hid hz1
  replace hz2 := Lib.hid hz2
  obtain ⟨A, c, rfl, hrd, hc1, hc2⟩ := h.rd
  have f2 : w.cell? ⟨g, 2, none⟩ = some (.slice A acc.length c) := (blk_cell h.blk 2).trans rfl
  have hfit : Hid (∀ b ∈ acc.map Prod.snd, b.rows.length ≤ 32 ∧ ∀ r ∈ b.rows, r.length ≤ 1000000) := fun b hb => by
    obtain ⟨p, hp, rfl⟩ := List.mem_map.1 hb
    exact h.fit p hp
  have hbl : Hid ((acc.map Prod.snd).length = acc.length) := List.length_map _
  generalize acc.map Prod.snd = bs at *
  generalize acc.length = n at *
  have hnil := Lib.hid hr.1.symm
  replace hr := Lib.hid hr
  replace hrd := Lib.hid hrd
  clear h
  have hni : ni ≤ 9223372036854775807 := hr.out.2.1
  go_enter Try.func60, Try.ntmps60
  go_wp2
  clear f2
  go_loopg [5, 15] n (fun kq v5 i wr => BtL w bs ids n kq v5 i wr)
  case atStart => exact ⟨0, [], rfl, by omega, by omega, CF.own_nil _ _ _ _, (fun p hp => by cases hp), by simp, by simp, Below.refl _ _⟩
  case round =>
    obtain ⟨k, ac, rfl, hk, rfl, hown, hsl, hmp, hal, hB⟩ := hrel
    replace hown := Lib.hid hown
    replace hsl := Lib.hid hsl
    replace hmp := Lib.hid hmp
    by_cases hlt : k < n
    · obtain ⟨b, o, rfl, ⟨A1, n1, c1, z0, z1, hrr, hx1, hx2, j0, j1⟩, q2⟩ := (rdB_below hrd.out hB).at_ hlt
      have q0 : (0 : Int) ≤ (k : Int) := by omega
      have q1 : (k : Int) < (n : Int) := by omega
      have hst := Lib.hid (filter_take (inB ids) bs k (by rw [hbl.out]; exact hlt))
      have hft : (el bs k).rows.length ≤ 32 ∧ ∀ r ∈ (el bs k).rows, r.length ≤ 1000000 := by
        have hkl : k < bs.length := by rw [hbl.out]; exact hlt
        have e : el bs k = bs[k] := by simp [el, List.getD, hkl]
        rw [e]; exact hfit.out _ (List.getElem_mem _)
      generalize el bs k = x at *
      obtain ⟨id, rows⟩ := x
      dsimp only at z0 hrr j0 j1 hft
      have hn1 : n1 ≤ 1000000 := by have := hrr.1; omega
      have hrow := Lib.hid hft.2
      replace hrr := Lib.hid hrr
      clear hft
      have PY : Below wr.heap.size wr (wr.alloc (.cells #[.int .i64 id, .slice A1 n1 c1] 38)) := by go_grown
      have y0 : (wr.alloc (.cells #[.int .i64 id, .slice A1 n1 c1] 38)).heap[wr.heap.size]? = some (.cells #[.int .i64 id, .slice A1 n1 c1] 38 (0, 0)) := heap_alloc_new wr _
      have f0 : (wr.alloc (.cells #[.int .i64 id, .slice A1 n1 c1] 38)).cell? ⟨wr.heap.size, 0, none⟩ = some (.int .i64 id) := (blk_cell y0 0).trans rfl
      have f1 : (wr.alloc (.cells #[.int .i64 id, .slice A1 n1 c1] 38)).cell? ⟨wr.heap.size, 1, none⟩ = some (.slice A1 n1 c1) := (blk_cell y0 1).trans rfl
      clear y0
      go_upto_region 6 with fail
      clear z0 z1
      generalize hbk : wr.heap.size = bk at *
      generalize wr.alloc (.cells #[.int .i64 id, .slice A1 n1 c1] 38) = Y at *
      have hBY := hB.trans (PY.mono (by rw [← hbk]; exact hB.size))
      obtain ⟨hit, hhit⟩ : ∃ q : Bool, q = inB ids ⟨id, rows⟩ := ⟨_, rfl⟩
      replace hhit := Lib.hid hhit
      go_cut [27] (fun t wx => t = .bool hit ∧ wx = Y)
      case first =>
        have hne : ¬ ((ni : Int) = 0) := by omega
        have hh : Hid (hit = ids.contains id) := by
          show _ = _
          rw [hhit.out]
          have : ids.isEmpty = false := by cases ids with
            | nil => exact absurd hnil.out (by simp; omega)
            | cons a t => rfl
          unfold inB
          rw [this]; rfl
        have hC := contains92 I ni ci ids id Y (rdN_below hr.out hBY)
        rw [← hh.out] at hC
        replace hC := Lib.hid hC
        go_wp2_with fail
        (with_reducible refine hC.out.mono ?_)
        rintro e W1 ⟨rfl, rfl⟩
        go_wp2
        go_meet
        case rel => exact ⟨by first | rfl | (rw [show ((ni : Int) == 0) = false by simpa using hne]; rfl), rfl⟩
      case rest =>
        obtain ⟨rfl, rfl⟩ := hcut
        cases hit with
        | false =>
          have hst2 : Hid ((bs.take (k + 1)).filter (inB ids) = (bs.take k).filter (inB ids)) := by show _ = _; rw [hst.out, ← hhit.out]; simp
          clear f0 f1
          go_wp2
          go_roundg (n - (k + 1))
          case measure => omega
          case rel =>
            refine ⟨k + 1, ac, by congr 1, by omega, rfl, LA.own_move hown.out (fun q e => PY.block q (by have := own_lt hown.out q e; omega)), fun p hp => ?_, by rw [hmp.out, hst2.out], by omega, hBY⟩
            obtain ⟨A', n', c', B, E, e1, hd, x1, x2, x3, x4, x5, x6⟩ := hsl.out p hp
            have hps := PY.size
            exact ⟨A', n', c', B, E, e1, hd.move (fun q h0 h1 => PY.block q (by omega)), x1, x2, x3, by omega, x5, x6⟩
        | true =>
          have hst2 : Hid ((bs.take (k + 1)).filter (inB ids) = (bs.take k).filter (inB ids) ++ [⟨id, rows⟩]) := by show _ = _; rw [hst.out, ← hhit.out]; simp
          have hCp := Lib.hid (copied91 id A1 n1 c1 rows wc (rdR_below hrr.out (by rw [hbk]; exact PY)) hn1 hrow.out)
          go_wp2_with fail
          (with_reducible refine hCp.out.mono ?_)
          rintro e W2 ⟨A2, n2, c2, rfl, hdep, hd1, hd2, hB2⟩
          clear hCp f0 f1
          have hbW : bk ≤ wc.heap.size := by rw [← hbk]; exact PY.size
          have hBW := hBY.trans (hB2.mono hBY.size)
          have P2 : Below W2.heap.size W2 (W2.alloc (.cells #[.int .i64 id, .slice A2 n2 c2] 38)) := by go_grown
          have hall : ∀ q, q < bk → (W2.alloc (.cells #[.int .i64 id, .slice A2 n2 c2] 38)).heap[q]? = wr.heap[q]? := fun q hq => (P2.block q (by have := hB2.size; omega)).trans ((hB2.block q (by omega)).trans (PY.block q hq))
          have hown2 : Hid ((W2.alloc (.cells #[.int .i64 id, .slice A2 n2 c2] 38)).ownsRow w.heap.size 38 2 u5 ac.length (ac.flatMap cBt)) := LA.own_move hown.out (fun q e => hall q (by have := own_lt hown.out q e; omega))
          have e2 : (W2.alloc (.cells #[.int .i64 id, .slice A2 n2 c2] 38)).heap[W2.heap.size]? = some (.cells #[.int .i64 id, .slice A2 n2 c2] 38 (0, 0)) := heap_alloc_new W2 _
          have hnews : Hid (∀ j u, (cBt (.slice A2 n2 c2, ⟨id, rows⟩))[j]? = some u → (W2.alloc (.cells #[.int .i64 id, .slice A2 n2 c2] 38)).cell? ((⟨W2.heap.size, 0, none⟩ : Addr).add j) = some u) := by
            intro j u hu
            rw [add_plain, blk_cell e2]
            simpa [cBt] using hu
          clear e2
          have hbs : w.heap.size ≤ (W2.alloc (.cells #[.int .i64 id, .slice A2 n2 c2] 38)).heap.size := Nat.le_trans hBW.size P2.size
          replace hdep := Lib.hid hdep
          go_wp2_with (at_builtin; refine wpList_append_own_at (W2.alloc (.cells #[.int .i64 id, .slice A2 n2 c2] 38)) rfl (.tmp 28) (.tmp 31) 25 rfl w.heap.size 38 i0 (.agg #[.int .i64 0, .slice none 0 0]) 2 32 Try.underlying25 hi.out hz0.out hz1.out hz2.out rfl (by omega) u5 ac.length (ac.flatMap cBt) rfl hown2.out ⟨W2.heap.size, 0, none⟩ 1 1 (cBt (.slice A2 n2 c2, ⟨id, rows⟩)) rfl rfl hnews.out (by intro u hu; simp only [cBt, List.mem_cons, List.not_mem_nil, or_false] at hu; rcases hu with rfl | rfl <;> rfl) (by simp only [maxLen]; omega) (by omega) hbs ?_; intro v1 w1 hown1 hg1 _ hob)
          have hol : ∀ q, u5.ownBlock = some q → q < bk := fun q e => by have := own_lt hown.out q e; omega
          have hob1 : ∀ q, u5.ownBlock = some q → w.heap.size ≤ q := fun q e => own_base hown.out q e
          have hps := P2.size
          have hB2s := hB2.size
          have hBs := hB.size
          have hgs := hg1.size
          have hBf : Below w.heap.size w w1 := (hBW.trans (P2.mono hBW.size)).grown hg1 hbs (fun q e => hob1 q e)
          go_roundg (n - (k + 1))
          case measure => omega
          case rel =>
            refine ⟨k + 1, ac ++ [(.slice A2 n2 c2, ⟨id, rows⟩)], by congr 1, by omega, rfl, by simpa using hown1, fun p hp => ?_, by rw [List.map_append, hmp.out, hst2.out]; rfl, by simp only [List.length_append, List.length_cons, List.length_nil]; omega, hBf⟩
            rcases List.mem_append.1 hp with hp | hp
            · obtain ⟨A', n', c', B, E, e1, hd, x1, x2, x3, x4, x5, x6⟩ := hsl.out p hp
              refine ⟨A', n', c', B, E, e1, hd.move (fun q h0 h1 => (hg1.block q (by omega) (fun e => by have := x5 q e.symm; omega)).trans (hall q (by omega))), x1, x2, x3, by omega, fun q e => ?_, x6⟩
              rcases hob with h | h
              · exact x5 q (h.symm.trans e)
              · rw [h] at e; injection e with e; right; omega
            · obtain rfl := List.mem_singleton.1 hp
              refine ⟨A2, n2, c2, wc.heap.size, W2.heap.size, rfl, hdep.out.move (fun q h0 h1 => (hg1.block q (by omega) (fun e => by have := hol q e.symm; omega)).trans (P2.block q h1)), hd1, hd2, by omega, by omega, fun q e => ?_, j0, j1⟩
              rcases hob with h | h
              · left; have := hol q (h.symm.trans e); omega
              · rw [h] at e; injection e with e; right; omega
    · obtain rfl : k = n := by omega
      obtain ⟨A9, c9, rfl, hrd9, h91, h92⟩ := rdB_from hown.out hsl.out (by omega)
      rw [hmp.out, List.take_of_length_le (by rw [hbl.out]; exact Nat.le_refl _)] at hrd9
      replace hrd9 := Lib.hid hrd9
      go_wp2
      go_ret
      exact ⟨A9, _, c9, rfl, hrd9.out, h91, h92, hB⟩
theorem batches60 {wB : World} (g : Nat) (nm : ByteArray) (C : Option Addr) (nc dc : Nat) (room : Int) (v : Value) (acc : List (Value × Bt)) (X : Nat → Prop) (I : Option Addr) (ni ci : Nat) (ids : List Int) (w : World) (h : Ln wB w g nm C nc dc room v acc X) (hlen : acc.length ≤ 1000000) (hr : RdN w I ni ids) : Calls Try.prog 60 #[.pointer (some ⟨g, 0, none⟩), .slice I ni ci] w (BaR w ((acc.map Prod.snd).filter (inB ids))) := by
  rcases Nat.eq_zero_or_pos ni with h0 | h0
  · subst h0
    obtain rfl : ids = [] := List.eq_nil_of_length_eq_zero hr.1
    exact batches60z g nm C nc dc room v acc X I ci w h hlen
  · exact batches60s g nm C nc dc room v acc X I ni ci ids w h hlen hr h0
end Go.Proofs.Ytegkclehijdbiaa.LC
