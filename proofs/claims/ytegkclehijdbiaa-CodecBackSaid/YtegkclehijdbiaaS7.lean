import Derived.Test.YtegkclehijdbiaaS6
set_option linter.unusedVariables false
set_option linter.unusedSimpArgs false
namespace Go.Proofs.Ytegkclehijdbiaa.S7
open Go.RowKit Go.Proofs.Ytegkclehijdbiaa.V1 Go.Proofs.Ytegkclehijdbiaa.V2 Go.Proofs.Ytegkclehijdbiaa.V3 Go.Proofs.Ytegkclehijdbiaa.VD Go.Proofs.Ytegkclehijdbiaa.N1 Go.Proofs.Ytegkclehijdbiaa.N2 Go.Proofs.Ytegkclehijdbiaa.N3 Go.Proofs.Ytegkclehijdbiaa.CA Go.Proofs.Ytegkclehijdbiaa.CB Go.Proofs.Ytegkclehijdbiaa.CC Go.Proofs.Ytegkclehijdbiaa.CD Go.Proofs.Ytegkclehijdbiaa.CE Go.Proofs.Ytegkclehijdbiaa.CF Go.Proofs.Ytegkclehijdbiaa.CG Go.Proofs.Ytegkclehijdbiaa.CH Go.Proofs.Ytegkclehijdbiaa.W1 Go.Proofs.Ytegkclehijdbiaa.W2 Go.Proofs.Ytegkclehijdbiaa.W3 Go.Proofs.Ytegkclehijdbiaa.W4 Go.Proofs.Ytegkclehijdbiaa.W5 Go.Proofs.Ytegkclehijdbiaa.W6 Go.Proofs.Ytegkclehijdbiaa.PE Go.Proofs.Ytegkclehijdbiaa.RW Go.Proofs.Ytegkclehijdbiaa.AW Go.Proofs.Ytegkclehijdbiaa.S6
open Go.Proofs.YtegkclehijdbiaaW.PrintLast hiding takeB
open Go.Proofs.YtegkclehijdbiaaW.PrintWords hiding Ev

/-- What the law takes, one behind the other. -/
def chain (st : Option (List UInt8)) : Option (List UInt8) := (res (takeRows 30 30) [] (res (takeT 1000) ⟨#[]⟩ (res takeI 0 st).2).2).2
theorem chain_more {p r t : List UInt8} (h : chain (some p) = some r) : chain (some (p ++ t)) = some (r ++ t) := by
  unfold chain at h ⊢
  obtain ⟨l2, e2, h2⟩ := res_some h
  obtain ⟨l1, e1, h1⟩ := res_some e2
  obtain ⟨l0, e0, h0⟩ := res_some e1
  cases e0
  have k0 := takeI_more t h0
  have k1 := takeT_more t h1
  have k2 := takeRows_more t h2
  rw [res_yes (f := takeI) k0, res_yes (f := takeT 1000) k1, res_yes (f := takeRows 30 30) k2]
theorem chain_cut {p t : List UInt8} (ht : t ≠ []) (h : chain (some (p ++ t)) = some []) : chain (some p) = none := by
  cases e : chain (some p) with
  | none => rfl
  | some r =>
    rw [chain_more e] at h
    simp only [Option.some.injEq, List.append_eq_nil_iff] at h
    exact absurd h.2 ht
/-- One text in a row of its own. -/
theorem one_t {w : World} {s : ByteArray} (h : s.size ≤ 9223372036854775807) (t : TypeId) : RdT (w.alloc (.cells #[.string s] t)) (some ⟨w.heap.size, 0, none⟩) 1 [s] := by
  have eB : (w.alloc (.cells #[.string s] t)).heap[w.heap.size]? = some (.cells #[.string s] t (0, 0)) := heap_alloc_new w _
  refine ⟨rfl, by omega, fun _ => ⟨_, 0, rfl, fun i hi => ?_⟩⟩
  obtain rfl : i = 0 := by omega
  exact ⟨(blk_cell eB 0).trans rfl, by simpa [el] using h⟩
/-- Every value of the rows that were looked at is right. -/
def AllL (ls : List (List Vl)) (k : Nat) : Prop := ∀ j, j < k → ∀ v ∈ el ls j, okV v = true
theorem num_pos (n : Nat) : 0 < (num n).length := by simp [num]
theorem st_low {w0 w w' : World} {g : Nat} (hB : Below w0.heap.size w0 w) (hg : w0.heap.size ≤ g) (k : Keep1 g w w') : Below w0.heap.size w0 w' := hB.trans (k.to_below hg hB.size)
set_option maxRecDepth 20000 in
set_option maxHeartbeats 8000000 in
/-- CodecBack. -/
theorem law (n : Int) (tx more : ByteArray) (A : Option Addr) (m c : Nat) (ls : List (List Vl)) (at_ : Int) (w : World) (i0 : -9223372036854775808 ≤ n) (i1 : n ≤ 9223372036854775807) (a0 : -9223372036854775808 ≤ at_) (a1 : at_ ≤ 9223372036854775807) (s0 : tx.size ≤ 9223372036854775807) (s1 : more.size ≤ 9223372036854775807) (hr : RdR w A m ls) :
    Calls Try.prog 8 #[.int .i64 n, .string tx, .slice A m c, .string more, .int .i64 at_] w fun e w' => e = .returned (.bool true) ∧ Below w.heap.size w w' := by
  have hm := hr.2.1
  have hlen := Lib.hid hr.1
  have hAw := Lib.hid awake27
  have hG := Lib.hid (great26 A m c ls w hr)
  replace hr := Lib.hid hr
  go_enter Try.func8, Try.ntmps8
  go_wp2_with fail
  (with_reducible refine hG.out.mono ?_)
  rintro e W1 ⟨G, rfl, hg, hB1⟩
  clear hG
  cases G with
  | true =>
    go_wp2_with fail
    (with_reducible refine (hAw.out _).mono ?_)
    rintro e W2 ⟨rfl, hB⟩
    go_wp2
    go_ret
    exact ⟨rfl, hB1.trans (hB.mono hB1.size)⟩
  | false =>
  have hgq := Lib.hid (hg rfl)
  clear hg
  by_cases ht : 1000 < tx.size
  · go_wp2_with fail
    (with_reducible refine (hAw.out _).mono ?_)
    rintro e W2 ⟨rfl, hB⟩
    go_wp2
    go_ret
    exact ⟨rfl, hB1.trans (hB.mono hB1.size)⟩
  by_cases hmo : 1000 < more.size
  · go_wp2_with fail
    (with_reducible refine (hAw.out _).mono ?_)
    rintro e W2 ⟨rfl, hB⟩
    go_wp2
    go_ret
    exact ⟨rfl, hB1.trans (hB.mono hB1.size)⟩
  have wR : Hid (wtR ls ≤ 279270) := wtR_g hgq.out hlen.out
  go_wp2
  go_loopg [11] m (fun kq i wr => ∃ k : Nat, i = .int .i64 (k : Int) ∧ k ≤ m ∧ kq = m - k ∧ Below w.heap.size w wr ∧ AllL ls k)
  case atStart => exact ⟨0, rfl, by omega, by omega, hB1, fun j hj => by omega⟩
  case round =>
  obtain ⟨k, rfl, hk, rfl, hw, hall⟩ := hrel
  replace hall := Lib.hid hall
  by_cases hlt : k < m
  · obtain ⟨b, o, rfl, ⟨A1, n1, c1, z0, hrv, h1, h2⟩, q2⟩ := (rdR_below hr.out hw).at_ hlt
    have q0 : (0 : Int) ≤ (k : Int) := by omega
    have q1 : (k : Int) < (m : Int) := by omega
    rw [Nat.mul_one] at z0 q2
    have hV := Lib.hid (all46 A1 n1 c1 (el ls k) wr hrv)
    have hl1 := Lib.hid hrv.1
    clear hrv
    cases hb : allV (el ls k) n1 with
    | false =>
      rw [hb] at hV
      go_wp2_with fail
      (with_reducible refine hV.out.mono ?_)
      rintro e W2 ⟨rfl, hB2⟩
      go_wp2_with fail
      (with_reducible refine (hAw.out _).mono ?_)
      rintro e W3 ⟨rfl, hB⟩
      go_wp2
      go_ret
      have hB3 := hw.trans (hB2.mono hw.size)
      exact ⟨rfl, hB3.trans (hB.mono hB3.size)⟩
    | true =>
      rw [hb] at hV
      replace hb := Lib.hid hb
      go_wp2_with fail
      (with_reducible refine hV.out.mono ?_)
      rintro e W2 ⟨rfl, hB2⟩
      clear hV
      go_wp2
      go_roundg (m - (k + 1))
      case measure => omega
      case rel =>
        refine ⟨k + 1, by congr 1, by omega, rfl, hw.trans (hB2.mono hw.size), fun j hj v hv => ?_⟩
        rcases Nat.lt_or_ge j k with h | h
        · exact hall.out j h v hv
        · obtain rfl : j = k := by omega
          obtain ⟨i, hi, rfl⟩ := el_mem hv
          exact allV_at hb.out (by rw [← hl1.out]; exact hi)
  obtain rfl : k = m := by omega
  have hgood : Hid (∀ r ∈ ls, (r.length : Int) ≤ 30 ∧ r.length < 18446744073709551616 ∧ ∀ v ∈ r, v.Fit ∧ okV v = true) := fun r hrm => by
    have h1 := (hgq.out.2 r hrm).1
    refine ⟨by omega, by omega, fun v hv => ⟨(rows_mem hr.out r hrm).1 v hv, ?_⟩⟩
    obtain ⟨i, hi, rfl⟩ := el_mem hrm
    exact hall.out i (by rw [← hlen.out]; exact hi) v hv
  clear hall hlt hk hB1
  obtain ⟨M, hM⟩ : ∃ M, M = more.data.toList := ⟨_, rfl⟩
  have hMs : Hid (S M = more) := by rw [hM]; exact S_eq more
  replace hM := Lib.hid hM
  have t0 : Hid (takeI (encI n ++ (encT tx ++ encRows ls ++ M)) = some (n, encT tx ++ encRows ls ++ M)) := takeI_enc i0 i1 _
  have t1 : Hid (takeT 1000 (encT tx ++ (encRows ls ++ M)) = some (tx, encRows ls ++ M)) := takeT_enc (by omega) (by omega) _
  have t2 : Hid (takeRows 30 30 (encRows ls ++ M) = some (ls, M)) := takeRows_enc (by have := hgq.out.1; rw [hlen.out]; omega) (by have := hgq.out.1; rw [hlen.out]; omega) hgood.out _
  have hch : Hid (chain (some (encI n ++ encT tx ++ encRows ls)) = some []) := by
    have k0 : takeI (encI n ++ encT tx ++ encRows ls) = some (n, encT tx ++ encRows ls) := by rw [List.append_assoc]; exact takeI_enc i0 i1 _
    have k1 : takeT 1000 (encT tx ++ encRows ls) = some (tx, encRows ls) := takeT_enc (by omega) (by omega) _
    have k2 : takeRows 30 30 (encRows ls) = some (ls, []) := by
      have := takeRows_enc (most := 30) (cols := 30) (l := ls) (by have := hgq.out.1; rw [hlen.out]; omega) (by have := hgq.out.1; rw [hlen.out]; omega) hgood.out []
      rwa [List.append_nil] at this
    show chain _ = _
    unfold chain
    rw [res_yes (f := takeI) k0, res_yes (f := takeT 1000) k1, res_yes (f := takeRows 30 30) k2]
  have l0 : Hid ((encI n).length ≤ 9) := encI_len i0 i1
  have l1 : Hid ((encT tx).length ≤ 1009) := by have := encT_len s0; show _ ≤ _; omega
  have l2 : Hid ((encRows ls).length ≤ 279279) := by
    have h6 := num_len ls.length (by rw [hlen.out]; omega)
    have h7 := wtR_le ls (rows_mem hr.out)
    have h8 := wR.out
    show _ ≤ _
    rw [encRows, List.length_append]; omega
  have lp : Hid (0 < (encI n).length) := num_pos _
  have lM : Hid (M.length ≤ 1000) := by show _ ≤ _; rw [hM.out, Array.length_toList]; show more.size ≤ 1000; omega
  go_upto_region 9 with fail
  have PX : Below wr.heap.size wr (wr.alloc (.cells #[.slice none 0 0] 64)) := by go_grown
  have hX : Wr (wr.alloc (.cells #[.slice none 0 0] 64)) w.heap.size wr.heap.size (.slice none 0 0) [] := ⟨heap_alloc_new wr _, CF.own_nil _ _ _ _, hw.size⟩
  have hBX := hw.trans (PX.mono hw.size)
  clear PX
  have hgw : w.heap.size ≤ wr.heap.size := hw.size
  generalize wr.alloc (.cells #[.slice none 0 0] 64) = X at *
  generalize wr.heap.size = g at *
  have PY : Below X.heap.size X (X.alloc (.cells #[.int .i64 n] 2)) := by go_grown
  have hBY := hBX.trans (PY.mono hBX.size)
  have hC0 := Lib.hid (signed35 w.heap.size g _ [] (some ⟨X.heap.size, 0, none⟩) 1 1 [n] _ (hX.below PY) (one_n i0 i1 2) (out_n hX _) (by omega) (by simp))
  go_wp2_with fail
  (with_reducible refine hC0.out.mono ?_)
  rintro e U1 ⟨v1, rfl, hw1, hk1⟩
  have hU1 := kw_low (hX.below PY) hBY (Nat.le_refl _) hk1
  clear hC0 hk1 PY hX hBX hBY
  rw [show [] ++ [n].flatMap encI = encI n by simp] at hw1
  have PZ : Below U1.heap.size U1 (U1.alloc (.cells #[.string tx] 9)) := by go_grown
  have hBZ := hU1.trans (PZ.mono hU1.size)
  have hC1 := Lib.hid (text36 w.heap.size g v1 _ (some ⟨U1.heap.size, 0, none⟩) 1 1 [tx] _ (hw1.below PZ) (one_t s0 9) (out_n hw1 _) (fun j hj => by
    have h2 := l0.out
    have h3 := l1.out
    have h4 : (([tx].take j).flatMap encT).length ≤ 1009 := by
      rcases (show j = 0 ∨ j = 1 by omega) with rfl | rfl
      · simp
      · simpa using h3
    rw [List.length_append]; omega))
  go_wp2_with fail
  (with_reducible refine hC1.out.mono ?_)
  rintro e U2 ⟨v2, rfl, hw2, hk2⟩
  have hU2 := kw_low (hw1.below PZ) hBZ (Nat.le_refl _) hk2
  clear hC1 hk2 PZ hBZ hw1 hU1
  rw [show [tx].flatMap encT = encT tx by simp] at hw2
  have hC2 := Lib.hid (rows39 w w.heap.size g v2 _ A k c ls _ hw2 hr.out hU2 (Nat.le_refl _) (by
    have h0 := wR.out
    have h1 := l0.out
    have h2 := l1.out
    rw [List.length_append]; omega))
  go_wp2_with fail
  (with_reducible refine hC2.out.mono ?_)
  rintro e U3 ⟨v3, rfl, hw3, hk3⟩
  have hU3 := kw_low hw2 hU2 (Nat.le_refl _) hk3
  clear hC2 hk3 hw2 hU2
  obtain ⟨L, hL⟩ : ∃ L, L = encI n ++ encT tx ++ encRows ls := ⟨_, rfl⟩
  rw [← hL] at hw3
  have hlL : L.length ≤ 280297 ∧ 0 < L.length := by
    have h0 := l0.out
    have h1 := l1.out
    have h2 := l2.out
    have h3 := lp.out
    rw [hL, List.length_append, List.length_append]; omega
  have hch2 : Hid (chain (some L) = some []) := by rw [hL]; exact hch.out
  have hLM : Hid ((S L ++ more).data.toList = encI n ++ (encT tx ++ encRows ls ++ M)) := by
    show _ = _
    rw [← hMs.out, S_app, hL]; simp
  replace hL := Lib.hid hL
  have hE0 : Calls Try.prog 40 #[.pointer (some ⟨g, 0, none⟩)] U3 fun e w' => e = .returned (.string (S L)) ∧ U3 = w' := string40 w.heap.size g v3 L U3 hw3 (by omega)
  have hSz : (S L).size = L.length := S_size L
  clear hw3
  obtain ⟨T, hT⟩ : ∃ T, T = S L := ⟨_, rfl⟩
  rw [← hT] at hE0 hSz hLM
  replace hT := Lib.hid hT
  have hcc : T.size + more.size ≤ 9223372036854775807 := by omega
  have hne : ¬ ((T.size : Int) = 0) := by omega
  have hRd := Lib.hid (read44 (T ++ more) U3 (by rw [ByteArray.size_append]; omega))
  replace hE0 := Lib.hid hE0
  replace hlL := Lib.hid hlL
  go_wp2_with fail
  (with_reducible refine hE0.out.mono ?_)
  rintro e U ⟨rfl, rfl⟩
  clear hE0
  go_wp2_with fail
  (with_reducible refine hRd.out.mono ?_)
  rintro e U4 ⟨gr, rfl, hgr, hR4, hB4⟩
  have hU4 := hU3.trans (hB4.mono hU3.size)
  have hgr : w.heap.size ≤ gr := Nat.le_trans hU3.size hgr
  clear hRd hB4
  rw [hLM.out] at hR4
  have hQ0 := signed47 gr _ U4 hR4
  rw [res_yes (f := takeI) t0.out, List.append_assoc] at hQ0
  replace hQ0 := Lib.hid hQ0
  go_wp2_with fail
  (with_reducible refine hQ0.out.mono ?_)
  rintro e U5 ⟨rfl, hR5, hK5⟩
  have hU5 := st_low hU4 hgr hK5
  clear hQ0 hR4 hK5
  have hQ1 := text48 gr 1000 _ U5 hR5 (by omega) (by omega)
  rw [res_yes (f := takeT 1000) t1.out] at hQ1
  replace hQ1 := Lib.hid hQ1
  go_wp2_with fail
  (with_reducible refine hQ1.out.mono ?_)
  rintro e U6 ⟨rfl, hR6, hK6⟩
  have hU6 := st_low hU5 hgr hK6
  clear hQ1 hR5 hK6
  have hQ2 := rows50 gr 30 30 _ U6 hR6 (by omega) (by omega) (by omega) (by omega) (fun l hl => by
    have h0 := l2.out
    have h1 := lM.out
    injection hl with hl
    rw [← hl, List.length_append]; omega)
  rw [res_yes (f := takeRows 30 30) t2.out] at hQ2
  replace hQ2 := Lib.hid hQ2
  go_wp2_with fail
  (with_reducible refine hQ2.out.mono ?_)
  rintro e U7 ⟨A7, n7, c7, rfl, hv7, _, _, _, hR7, hK7⟩
  have hU7 := st_low hU6 hgr hK7
  clear hQ2 hR6 hK7
  have hQ3 := VF.same49 A7 A n7 c7 k c ls ls U7 hv7 (rdR_below hr.out hU7)
  rw [VF.sameR_refl] at hQ3
  replace hQ3 := Lib.hid hQ3
  clear hv7
  go_wp2_with fail
  (with_reducible refine hQ3.out.mono ?_)
  rintro e U8 ⟨rfl, q8, rfl⟩
  have hU8 : Below w.heap.size w (U7.drewN q8) := pw_below_drewN hU7 q8
  have hR8 : Rs (U7.drewN q8) gr (some M) := hR7.below (pw_below_drewN (Below.refl _ _) q8)
  clear hQ3 hR7
  generalize U7.drewN q8 = U9 at *
  have hQ4 : Calls Try.prog 51 #[.pointer (some ⟨gr, 0, none⟩)] U9 fun e w' => e = .returned (.string (S M)) ∧ U9 = w' := string51 gr _ U9 hR8
  rw [hMs.out] at hQ4
  replace hQ4 := Lib.hid hQ4
  have hQ5 := Lib.hid (good52 gr _ U9 hR8)
  go_wp2_with fail
  (with_reducible refine hQ4.out.mono ?_)
  rintro e U ⟨rfl, rfl⟩
  go_wp2_with fail
  (with_reducible refine hQ5.out.mono ?_)
  rintro e U ⟨rfl, rfl⟩
  dsimp only [Option.isSome]
  clear hQ4 hQ5
  go_upto_region 13 with fail
  obtain ⟨j, hj, hjj⟩ : ∃ j : Nat, j < L.length ∧ wrap64 ((IntKind.u64.wrap at_).tmod (L.length : Int)) = (j : Int) := by
    have hp := hlL.out
    have u0 : 0 ≤ IntKind.u64.wrap at_ := by rw [IntKind.wrap_u64]; omega
    have e1 : (IntKind.u64.wrap at_).tmod (L.length : Int) = IntKind.u64.wrap at_ % (L.length : Int) := Int.tmod_eq_emod_of_nonneg u0
    have e2 : 0 ≤ IntKind.u64.wrap at_ % (L.length : Int) := Int.emod_nonneg _ (by omega)
    have e3 : IntKind.u64.wrap at_ % (L.length : Int) < (L.length : Int) := Int.emod_lt_of_pos _ (by omega)
    refine ⟨(IntKind.u64.wrap at_ % (L.length : Int)).toNat, by omega, ?_⟩
    rw [e1]
    unfold wrap64
    omega
  have j0 : (0 : Int) ≤ (j : Int) := by omega
  have j1 : (j : Int) ≤ (L.length : Int) := by omega
  have hX1 : Hid (T.extract 0 j = S (L.take j)) := by show _ = _; rw [hT.out]; have := S_take L j; rwa [Int.toNat_natCast] at this
  have hcut : Hid (chain (some (L.take j)) = none) := by
    refine chain_cut (t := L.drop j) (fun h => ?_) (by rw [List.take_append_drop]; exact hch2.out)
    have := congrArg List.length h
    simp at this
    omega
  have hlt := Lib.hid (show (L.take j).length ≤ 280297 by rw [List.length_take]; have := hlL.out.1; omega)
  obtain ⟨P, hP⟩ : ∃ P, P = L.take j := ⟨_, rfl⟩
  rw [← hP] at hX1 hcut hlt
  replace hP := Lib.hid hP
  have hU9 := hU8
  have hRd := Lib.hid (read44 (S P) U9 (by rw [S_size]; have := hlt.out; omega))
  rw [← hX1.out] at hRd
  clear hR8
  go_wp2_with fail
  (with_reducible refine hRd.out.mono ?_)
  rintro e V0 ⟨gq, rfl, hgq0, hR0, hB0⟩
  rw [hX1.out] at hR0
  have hR0 : Rs V0 gq (some P) := hR0
  have hV0 := hU9.trans (hB0.mono hU9.size)
  have hgq1 : w.heap.size ≤ gq := Nat.le_trans hU9.size hgq0
  clear hRd hB0
  have hD0 := Lib.hid (signed47 gq _ V0 hR0)
  go_wp2_with fail
  (with_reducible refine hD0.out.mono ?_)
  rintro e V1 ⟨rfl, hR1, hK1⟩
  have hV1 := st_low hV0 hgq1 hK1
  clear hD0 hK1 hR0
  have hD1 := Lib.hid (text48 gq 1000 _ V1 hR1 (by omega) (by omega))
  go_wp2_with fail
  (with_reducible refine hD1.out.mono ?_)
  rintro e V2 ⟨rfl, hR2, hK2⟩
  have hV2 := st_low hV1 hgq1 hK2
  clear hD1 hK2 hR1
  have hD2 := Lib.hid (rows50 gq 30 30 _ V2 hR2 (by omega) (by omega) (by omega) (by omega) (fun l hl => by
    have h0 := hlt.out
    obtain ⟨l1, e1, h1⟩ := res_some hl
    obtain ⟨l2, e2, h2⟩ := res_some e1
    injection e2 with e2
    have h3 := takeT_le h1
    have h4 := takeI_le h2
    rw [← e2] at h4
    omega))
  go_wp2_with fail
  (with_reducible refine hD2.out.mono ?_)
  rintro e V3 ⟨A9, n9, c9, rfl, hv9, _, _, _, hR3, hK3⟩
  have hV3 := st_low hV2 hgq1 hK3
  clear hD2 hR2 hK3 hv9
  have hR3 : Rs V3 gq (chain (some P)) := hR3
  rw [hcut.out] at hR3
  have hD3 := Lib.hid (good52 gq _ V3 hR3)
  go_wp2_with fail
  (with_reducible refine hD3.out.mono ?_)
  rintro e U ⟨rfl, rfl⟩
  dsimp only [Option.isSome]
  go_wp2_with fail
  (with_reducible refine (hAw.out _).mono ?_)
  rintro e U ⟨rfl, hB⟩
  go_wp2
  go_ret
  exact ⟨rfl, hV3.trans (hB.mono hV3.size)⟩
end Go.Proofs.Ytegkclehijdbiaa.S7
