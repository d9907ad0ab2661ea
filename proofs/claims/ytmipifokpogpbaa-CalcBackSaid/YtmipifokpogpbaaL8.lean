import Derived.Test.YtmipifokpogpbaaPQ
set_option linter.unusedSimpArgs false
set_option linter.unusedVariables false
namespace Go.Proofs.Ytmipifokpogpbaa.L8
open Go.RowKit Go.Proofs.YtmipifokpogpbaaW.PrintWords Go.Proofs.YtmipifokpogpbaaW.PrintLast Go.Proofs.Ytmipifokpogpbaa.C1 Go.Proofs.Ytmipifokpogpbaa.C2 Go.Proofs.Ytmipifokpogpbaa.TP Go.Proofs.Ytmipifokpogpbaa.PR Go.Proofs.Ytmipifokpogpbaa.RP

set_option maxHeartbeats 1000000 in
theorem law (s : ByteArray) (n : Int) (w : World) (hs : s.size ≤ 140737488351232) (h1 : -9223372036854775808 ≤ n) (h2 : n ≤ 9223372036854775807) :
    Calls Try.prog 8 #[.string s, .int .i64 n] w fun e w' => e = .returned (.bool true) ∧ Below w.heap.size w w' := by
  by_cases hbig : 60 < s.size
  · go_enter Try.func8, Try.ntmps8
    go_wp2_with (go_at_call 12; (with_reducible refine (C4.awake _).mono ?_); rintro e W1 ⟨rfl, hB⟩)
    go_ret
    exact ⟨rfl, hB⟩
  go_enter Try.func8, Try.ntmps8
  go_wp2_with fail
  (with_reducible refine (TP.parse s _ hs).mono ?_)
  rintro e W1 ⟨rfl, hB1⟩
  go_wp2_with fail
  (with_reducible refine (RP.parse s _ (by omega)).mono ?_)
  rintro e W2 ⟨rfl, hB2⟩
  generalize psV (restS s) (negB s) = pv at *
  generalize psE (restS s) (negB s) = pe at *
  have hB := hB1.trans (hB2.mono hB1.size)
  clear hB1 hB2
  go_wp2_with fail
  (with_reducible refine (PR.print n _ h1 h2).mono ?_)
  rintro e W3 ⟨rfl, hB3⟩
  have hB := hB.trans (hB3.mono hB.size)
  clear hB3
  go_wp2_with fail
  (with_reducible refine (PQ.print n _ h1 h2).mono ?_)
  rintro e W4 ⟨rfl, hB4⟩
  have hB := hB.trans (hB4.mono hB.size)
  clear hB4
  generalize strOfNums (txt n) = t at *
  go_wp2_with fail
  (with_reducible refine (C4.awake _).mono ?_)
  rintro e W5 ⟨rfl, hB5⟩
  have hB := hB.trans (hB5.mono hB.size)
  go_wp2
  go_ret
  exact ⟨rfl, hB⟩

theorem bt_str (l : List Int) (h : ∀ x ∈ l, 0 ≤ x ∧ x ≤ 255) (i : Nat) (hi : i < l.length) : bt (strOfNums l) i = l.getD i 0 := by
  have h0 := h _ (List.getElem_mem hi)
  rw [← rd_bytesOf, rd_getD]
  unfold bytesOf
  rw [strOfNums_data, List.getD_eq_getElem?_getD, List.getD_eq_getElem?_getD, List.getElem?_eq_getElem hi]
  simp only [List.map_map, List.getElem?_map, List.getElem?_eq_getElem hi, Option.map_some, Option.getD_some, Function.comp]
  rw [UInt8.toNat_ofNat']
  omega
theorem byts_bd {ds : List Int} (h : M.Dg ds) : ∀ x ∈ byts ds, 48 ≤ x ∧ x ≤ 57 := by
  intro x hx
  simp only [byts, List.mem_reverse, List.mem_map] at hx
  obtain ⟨d, hd, rfl⟩ := hx
  have := h d hd
  omega
theorem byts_get {ds : List Int} {m : Nat} (hm : m < ds.length) : (byts ds).getD (ds.length - 1 - m) 0 = 48 + ds[m] := by
  rw [List.getD_eq_getElem?_getD, byts, List.getElem?_reverse (by simp; omega)]
  simp only [List.length_map]
  rw [show ds.length - 1 - (ds.length - 1 - m) = m by omega, List.getElem?_map, List.getElem?_eq_getElem hm]; rfl
/-- A text: a sign or none, digits. -/
structure Tx (l pre ds : List Int) : Prop where
  eq : l = pre ++ byts ds
  pre_bd : ∀ x ∈ pre, x = 45
  dg : M.Dg ds
theorem Tx.bd {l pre ds : List Int} (h : Tx l pre ds) : ∀ x ∈ l, 0 ≤ x ∧ x ≤ 255 := by
  intro x hx
  rw [h.eq] at hx
  rcases List.mem_append.1 hx with hx | hx
  · have := h.pre_bd x hx; omega
  · have := byts_bd h.dg x hx; omega
theorem Tx.len {l pre ds : List Int} (h : Tx l pre ds) : l.length = pre.length + ds.length := by rw [h.eq, List.length_append, byts_len]
theorem Tx.at_ {l pre ds : List Int} (h : Tx l pre ds) {m : Nat} (hm : m < ds.length) : bt (strOfNums l) ((pre.length + (ds.length - 1 - m) : Nat) : Int) = 48 + ds[m] := by
  rw [bt_str l h.bd _ (by rw [h.len]; omega), h.eq, List.getD_eq_getElem?_getD, List.getElem?_append_right (by omega), ← List.getD_eq_getElem?_getD, show pre.length + (ds.length - 1 - m) - pre.length = ds.length - 1 - m by omega]
  exact byts_get hm
theorem Tx.dl {l pre ds : List Int} (h : Tx l pre ds) : ∀ m, m ≤ ds.length → dl (strOfNums l) m = ds.take m
  | 0, _ => rfl
  | m + 1, hm => by
    rw [RP.dl, h.dl m (by omega), List.take_succ_eq_append_getElem (by omega), strOfNums_size, h.len]
    rw [show pre.length + ds.length - 1 - m = pre.length + (ds.length - 1 - m) by omega, h.at_ (by omega)]
    congr 2; omega
theorem Tx.ok {l pre ds : List Int} (h : Tx l pre ds) (hc : M.Canon ds) (hn : ds ≠ []) {r : ByteArray} {ng : Bool} (hR : RP.Rest (strOfNums l) r pre.length ng) : Okt r ng := by
  have hl : 0 < ds.length := List.length_pos_iff.2 hn
  rw [okt_iff hR, strOfNums_size, h.len]
  refine ⟨by omega, fun ⟨a, _⟩ => ?_, fun i h1 h2 => ?_⟩
  · have e := h.at_ (m := ds.length - 1) (by omega)
    rw [show pre.length + (ds.length - 1 - (ds.length - 1)) = pre.length by omega, a] at e
    have := hc hn
    have e2 : ds.getLast hn = ds[ds.length - 1] := List.getLast_eq_getElem hn
    rw [e2] at this
    omega
  · have e := h.at_ (m := ds.length - 1 - (i - pre.length)) (by omega)
    rw [show pre.length + (ds.length - 1 - (ds.length - 1 - (i - pre.length))) = i by omega] at e
    have := h.dg _ (List.getElem_mem (show ds.length - 1 - (i - pre.length) < ds.length by omega))
    omega
theorem back {n : Int} (h1 : -9223372036854775808 ≤ n) (h2 : n ≤ 9223372036854775807) : psV (restS (strOfNums (txt n))) (negB (strOfNums (txt n))) = n ∧ psE (restS (strOfNums (txt n))) (negB (strOfNums (txt n))) = 0 := by
  have hi : inR n = true := by simp [inR]; omega
  suffices h : Okt (restS (strOfNums (txt n))) (negB (strOfNums (txt n))) ∧ numT (restS (strOfNums (txt n))) (negB (strOfNums (txt n))) = n by
    obtain ⟨e1, e2⟩ := ps_ok h.1
    rw [e1, e2, h.2, smV_yes hi, erV_yes hi]
    exact ⟨rfl, rfl⟩
  by_cases h0 : n = 0
  · subst h0
    have e : strOfNums (txt 0) = ⟨#[48]⟩ := rfl
    rw [e]
    have n1 : negB ⟨#[48]⟩ = false := by decide
    have n2 : restS ⟨#[48]⟩ = ⟨#[48]⟩ := by simp [restS, n1]
    rw [n1, n2]
    refine ⟨⟨by decide, by decide, fun i hi => ?_⟩, by decide⟩
    obtain rfl : i = 0 := by have : i < 1 := hi; omega
    decide
  · have hd := digs_dg n.natAbs
    have hc := digs_can n.natAbs
    have hne := digs_ne (show 0 < n.natAbs by omega)
    have hv := digs_val n.natAbs
    have hl : 0 < (digs n.natAbs).length := List.length_pos_iff.2 hne
    by_cases hn : n < 0
    · have ht : Tx (txt n) [45] (digs n.natAbs) := ⟨by unfold txt; rw [if_neg h0, if_pos hn], by simp, hd⟩
      have hs : 0 < (strOfNums (txt n)).size := by rw [strOfNums_size, ht.len]; omega
      have hb : bt (strOfNums (txt n)) 0 = 45 := by
        have := bt_str (txt n) ht.bd 0 (by rw [ht.len]; simp; omega)
        rw [ht.eq] at this ⊢
        exact this
      obtain ⟨n1, hR⟩ := rest_neg hs hb
      rw [n1]
      refine ⟨ht.ok hc hne hR, ?_⟩
      have hz : (strOfNums (txt n)).size - 1 = (digs n.natAbs).length := by rw [strOfNums_size, ht.len]; simp
      rw [← num_sgn hR, hz, ht.dl _ (Nat.le_refl _), List.take_length, hv]
      simp [R2.sgn]; omega
    · have ht : Tx (txt n) [] (digs n.natAbs) := ⟨by unfold txt; rw [if_neg h0, if_neg hn], by simp, hd⟩
      have hb : ¬ (0 < (strOfNums (txt n)).size ∧ bt (strOfNums (txt n)) 0 = 45) := by
        rintro ⟨_, hb⟩
        have e := ht.at_ (m := (digs n.natAbs).length - 1) (by omega)
        rw [show ([] : List Int).length + ((digs n.natAbs).length - 1 - ((digs n.natAbs).length - 1)) = 0 by simp, show ((0 : Nat) : Int) = 0 from rfl, hb] at e
        have := hd _ (List.getElem_mem (show (digs n.natAbs).length - 1 < (digs n.natAbs).length by omega))
        omega
      obtain ⟨n1, hR⟩ := rest_pos hb
      rw [n1]
      refine ⟨ht.ok hc hne hR, ?_⟩
      have hz : (strOfNums (txt n)).size - 0 = (digs n.natAbs).length := by rw [strOfNums_size, ht.len]; simp
      rw [← num_sgn hR, hz, ht.dl _ (Nat.le_refl _), List.take_length, hv]
      simp [R2.sgn]; omega

set_option maxHeartbeats 1000000 in
theorem law9 (n : Int) (w : World) (h1 : -9223372036854775808 ≤ n) (h2 : n ≤ 9223372036854775807) :
    Calls Try.prog 9 #[.int .i64 n] w fun e w' => e = .returned (.bool true) ∧ Below w.heap.size w w' := by
  have hb := Lib.hid (back h1 h2)
  have hsz : (strOfNums (txt n)).size ≤ 140737488351232 := by
    rw [strOfNums_size]; unfold txt
    have := digs_len 19 n.natAbs (by omega)
    split
    · simp
    · split <;> simp [byts_len] <;> omega
  go_enter Try.func9, Try.ntmps9
  go_wp2_with fail
  (with_reducible refine (PR.print n _ h1 h2).mono ?_)
  rintro e W1 ⟨rfl, hB⟩
  go_wp2_with fail
  (with_reducible refine (TP.parse _ _ hsz).mono ?_)
  rintro e W2 ⟨rfl, hB2⟩
  have hB := hB.trans (hB2.mono hB.size)
  rw [hb.out.1, hb.out.2]
  clear hB2
  go_wp2_with fail
  (with_reducible refine (C4.awake _).mono ?_)
  rintro e W5 ⟨rfl, hB5⟩
  have hB := hB.trans (hB5.mono hB.size)
  go_wp2
  go_ret
  exact ⟨rfl, hB⟩
end Go.Proofs.Ytmipifokpogpbaa.L8
