import Derived.Test.YtegkclehijdbiaaNB
import Derived.Test.YtegkclehijdbiaaVF
set_option linter.unusedSimpArgs false
set_option linter.unusedVariables false
namespace Go.Proofs.Ytegkclehijdbiaa.SB
open Go.RowKit Go.Proofs.YtegkclehijdbiaaW.PrintWords Go.Proofs.Ytegkclehijdbiaa.V1 Go.Proofs.Ytegkclehijdbiaa.V2 Go.Proofs.Ytegkclehijdbiaa.V3 Go.Proofs.Ytegkclehijdbiaa.VC Go.Proofs.Ytegkclehijdbiaa.VD Go.Proofs.Ytegkclehijdbiaa.VF Go.Proofs.Ytegkclehijdbiaa.N1 Go.Proofs.Ytegkclehijdbiaa.N2 Go.Proofs.Ytegkclehijdbiaa.N3 Go.Proofs.Ytegkclehijdbiaa.CH Go.Proofs.Ytegkclehijdbiaa.W2 Go.Proofs.Ytegkclehijdbiaa.W6 Go.Proofs.Ytegkclehijdbiaa.RD Go.Proofs.Ytegkclehijdbiaa.BY Go.Proofs.Ytegkclehijdbiaa.NB
open Go.Proofs.YtegkclehijdbiaaW.PrintLast hiding takeB

theorem extract_take (l : List UInt8) (j : Nat) : (⟨l.toArray⟩ : ByteArray).extract 0 j = ⟨(l.take j).toArray⟩ := by
  have : ((⟨l.toArray⟩ : ByteArray).extract 0 j).data = (l.take j).toArray := by
    rw [ByteArray.data_extract]
    apply Array.ext'
    simp
  cases h : (⟨l.toArray⟩ : ByteArray).extract 0 j
  rw [h] at this
  simp only at this
  rw [this]
/-- All batches that were looked at are right. -/
def OkL (cols : List Cl) (bs : List Bt) (k : Nat) : Prop := ∀ j, j < k → 1 ≤ (el bs j).id ∧ fitsB cols (el bs j).rows = true
set_option maxRecDepth 20000 in
set_option maxHeartbeats 8000000 in
/-- StreamBack. -/
theorem law (C L : Option Addr) (nc cc m d : Nat) (cols : List Cl) (bs : List Bt) (at_ : Int) (w : World) (hc : RdC w C nc cols) (hl : RdB w L m bs) (a0 : -9223372036854775808 ≤ at_) (a1 : at_ ≤ 9223372036854775807) :
    Calls Try.prog 11 #[.slice C nc cc, .slice L m d, .int .i64 at_] w fun e w' => e = .returned (.bool true) ∧ Below w.heap.size w w' := by
  have hm := hl.2.1
  have hnc := hc.2.1
  have hlen := Lib.hid hl.1
  have hclen := Lib.hid hc.1
  have hAw := Lib.hid awake13
  have hG := Lib.hid (great12 ⟨#[]⟩ C L nc cc m d cols bs w (Nat.zero_le _) hc hl)
  have hmem := Lib.hid (bats_mem hl)
  replace hc := Lib.hid hc
  replace hl := Lib.hid hl
  go_enter Try.func11, Try.ntmps11
  go_wp2_with fail
  (with_reducible refine hG.out.mono ?_)
  rintro e W1 ⟨G, rfl, hg, hB1⟩
  clear hG
  cases G with
  | true =>
    go_wp2_with fail
    (with_reducible refine (hAw.out _).mono ?_)
    rintro e W2 ⟨rfl, hB⟩
    go_wp2
    go_ret
    exact ⟨rfl, hB1.trans (hB.mono hB1.size)⟩
  | false =>
  have hg2 := hg rfl
  clear hg
  by_cases h8 : 8 < nc
  · go_wp2_with fail
    (with_reducible refine (hAw.out _).mono ?_)
    rintro e W2 ⟨rfl, hB⟩
    go_wp2
    go_ret
    exact ⟨rfl, hB1.trans (hB.mono hB1.size)⟩
  have hm40 : m ≤ 40 := hg2.2
  replace hg2 := Lib.hid hg2
  go_wp2
  go_loopg [7] m (fun kq i wr => ∃ k : Nat, i = .int .i64 (k : Int) ∧ k ≤ m ∧ kq = m - k ∧ Below w.heap.size w wr ∧ OkL cols bs k)
  case atStart => exact ⟨0, rfl, by omega, by omega, hB1, fun j hj => by omega⟩
  case round =>
  obtain ⟨k, rfl, hk, rfl, hw, hall⟩ := hrel
  replace hall := Lib.hid hall
  by_cases hlt : k < m
  · obtain ⟨b, o, rfl, ⟨A1, n1, c1, z0, z1, hrr, h1, h2, i0, i1⟩, q2⟩ := (rdB_below hl.out hw).at_ hlt
    have q0 : (0 : Int) ≤ (k : Int) := by omega
    have q1 : (k : Int) < (m : Int) := by omega
    by_cases hid : (el bs k).id < 1
    · go_wp2_with fail
      (with_reducible refine (hAw.out _).mono ?_)
      rintro e W2 ⟨rfl, hB⟩
      go_wp2
      go_ret
      exact ⟨rfl, hw.trans (hB.mono hw.size)⟩
    · have hF := Lib.hid (fits18 C A1 nc cc n1 c1 cols (el bs k).rows wr (rdC_below hc.out hw) hrr)
      cases hb : fitsB cols (el bs k).rows with
      | false =>
        rw [hb] at hF
        go_wp2_with fail
        (with_reducible refine hF.out.mono ?_)
        rintro e W2 ⟨rfl, hB2⟩
        go_wp2_with fail
        (with_reducible refine (hAw.out _).mono ?_)
        rintro e W3 ⟨rfl, hB⟩
        go_wp2
        go_ret
        have hB3 := hw.trans (hB2.mono hw.size)
        exact ⟨rfl, hB3.trans (hB.mono hB3.size)⟩
      | true =>
        rw [hb] at hF
        replace hb := Lib.hid hb
        go_wp2_with fail
        (with_reducible refine hF.out.mono ?_)
        rintro e W2 ⟨rfl, hB2⟩
        clear hF
        go_wp2
        go_roundg (m - (k + 1))
        case measure => omega
        case rel =>
          refine ⟨k + 1, by congr 1, by omega, rfl, hw.trans (hB2.mono hw.size), fun j hj => ?_⟩
          rcases Nat.lt_or_ge j k with h | h
          · exact hall.out j h
          · obtain rfl : j = k := by omega
            exact ⟨by omega, hb.out⟩
  obtain rfl : k = m := by omega
  have hok : ∀ b ∈ bs, OkB cols b := fun b hb => by
    refine ⟨hmem.out b hb, ?_⟩
    obtain ⟨i, hi, rfl⟩ := el_mem hb
    exact hall.out i (by rw [← hlen.out]; exact hi)
  have hc8 : cols.length ≤ 8 := by rw [hclen.out]; omega
  have hb40 : bs.length ≤ 40 := by rw [hlen.out]; exact hm40
  have hwt := wt_ok hc8 hb40 hok
  have hEnc : Hid (rdB cols (some (encBs bs)) = (bs, some [])) := rdB_enc hc8 hb40 hok
  obtain ⟨T, hT⟩ : ∃ T, T = encBs bs := ⟨_, rfl⟩
  have hTl : T.length ≤ 3000009 ∧ 0 < T.length := by
    have e1 := wtB_le bs hmem.out
    have e2 := num_len bs.length (by omega)
    rw [hT, encBs, List.length_append]
    refine ⟨by omega, ?_⟩
    simp only [num, List.length_cons]; omega
  rw [← hT] at hEnc
  have hBy : Hid (Calls Try.prog 61 #[.slice L k d] wr fun e w' => e = .returned (.string ⟨T.toArray⟩) ∧ Below wr.heap.size wr w') := by rw [hT]; exact bytes61 L k d bs wr (rdB_below hl.out hw) (by omega)
  have hSz : (⟨T.toArray⟩ : ByteArray).size = T.length := by simp [ByteArray.size]
  have hRd : Hid (∀ W, Below w.heap.size w W → Calls Try.prog 62 #[.string ⟨T.toArray⟩, .slice C nc cc] W (StB W (rdB cols (some T)))) := fun W hW => read62 ⟨T.toArray⟩ C nc cc cols W (by rw [hSz]; omega) (rdC_below hc.out hW)
  have hTake : Hid (∀ j, (⟨T.toArray⟩ : ByteArray).extract 0 j = ⟨(T.take j).toArray⟩) := fun j => extract_take T j
  clear hwt hc8 hb40 hok hlt hk hall
  replace hT := Lib.hid hT
  obtain ⟨Q, hQ⟩ : ∃ Q, Q = (⟨T.toArray⟩ : ByteArray) := ⟨_, rfl⟩
  rw [← hQ] at hBy hSz hRd hTake
  replace hQ := Lib.hid hQ
  replace hTl := Lib.hid hTl
  have hTp := hTl.out.2
  go_wp2_with fail
  (with_reducible refine hBy.out.mono ?_)
  rintro e W3 ⟨rfl, hB3⟩
  have hB3 := hw.trans (hB3.mono hw.size)
  clear hBy
  have hR3 := hRd.out W3 hB3
  rw [hEnc.out] at hR3
  replace hR3 := Lib.hid hR3
  go_wp2_with fail
  (with_reducible refine hR3.out.mono ?_)
  rintro e W4 ⟨hB4, ⟨_, AG, ng, cg, rfl, hgot⟩ | ⟨he, _⟩⟩
  rotate_left
  · cases he
  have hB4 := hB3.trans (hB4.mono hB3.size)
  obtain rfl : k = ng := by rw [← hlen.out]; exact hgot.1
  clear hR3
  replace hgot := Lib.hid hgot
  have hne : ¬ ((Q.size : Int) = 0) := by omega
  go_wp2
  go_loopg [11] k (fun kq i wr => ∃ j : Nat, i = .int .i64 (j : Int) ∧ j ≤ k ∧ kq = k - j ∧ Below W4.heap.size W4 wr)
  case atStart => exact ⟨0, rfl, by omega, by omega, Below.refl _ _⟩
  case round =>
  obtain ⟨j, rfl, hk, rfl, hwj⟩ := hrel
  by_cases hlt : j < k
  · obtain ⟨bg, og, rfl, ⟨A1, n1, c1, y0, y1, hrr1, _, _, _, _⟩, q2⟩ := (rdB_below hgot.out hwj).at_ hlt
    have hBj := hB4.trans (hwj.mono hB4.size)
    obtain ⟨bl, ol, rfl, ⟨A2, n2, c2, z0, z1, hrr2, _, _, _, _⟩, p2⟩ := (rdB_below hl.out hBj).at_ hlt
    have q0 : (0 : Int) ≤ (j : Int) := by omega
    have q1 : (j : Int) < (k : Int) := by omega
    have hSm := Lib.hid (fun W hW => same24 (el bs j).id (el bs j).id A1 A2 n1 c1 n2 c2 (el bs j).rows (el bs j).rows W (rdR_below hrr1 hW) (rdR_below hrr2 hW))
    simp only [sameB_refl] at hSm
    generalize (el bs j).id = id at *
    go_upto_region 15 with fail
    refine start_ (n := 10) (S := fun w' => w'.cell? ⟨bg, og + j * 2, none⟩ = some (.int .i64 id) ∧ w'.cell? ⟨bg, og + j * 2 + 1, none⟩ = some (.slice A1 n1 c1) ∧ w'.cell? ⟨bl, ol + j * 2, none⟩ = some (.int .i64 id) ∧ w'.cell? ⟨bl, ol + j * 2 + 1, none⟩ = some (.slice A2 n2 c2)) (ds := []) #[false, false, false, false, false, false, false, false, false, false] (by kernel_rfl) rfl rfl ⟨y0, y1, z0, z1⟩ (fun hHeld => ?_)
    refine pure_ (i := 0) (N := some 75) (v := ?_) (a' := ?_) #[true, false, false, false, false, false, false, false, false, false] rfl rfl (by kernel_rfl) (fun _ _ _ h => h) (Or.inl ⟨by rfl, ?_⟩) ?_ ?_
    rotate_left
    · intro w'
      go_simp
      with_reducible rfl
    rotate_left
    · simp only [Act.put, List.setIfInBounds_toArray, List.set_cons_zero, List.set_cons_succ, i64_w, i32_w]
      rfl
    refine pure_ (i := 1) (N := some 76) (v := ?_) (a' := ?_) #[true, true, false, false, false, false, false, false, false, false] rfl rfl (by kernel_rfl) (fun _ _ _ h => h) (Or.inl ⟨by rfl, ?_⟩) ?_ ?_
    rotate_left
    · intro w'
      go_simp
      with_reducible rfl
    rotate_left
    · simp only [Act.put, List.setIfInBounds_toArray, List.set_cons_zero, List.set_cons_succ, i64_w, i32_w]
      rfl
    refine pure_ (i := 2) (N := some 77) (v := ?_) (a' := ?_) #[true, true, true, false, false, false, false, false, false, false] rfl rfl (by kernel_rfl) (fun _ _ _ h => h) (Or.inl ⟨by rfl, ?_⟩) ?_ ?_
    rotate_left
    · intro w'
      go_simp
      with_reducible rfl
    rotate_left
    · simp only [Act.put, List.setIfInBounds_toArray, List.set_cons_zero, List.set_cons_succ, i64_w, i32_w]
      rfl
    refine pure_ (i := 4) (N := some 79) (v := ?_) (a' := ?_) #[true, true, true, false, true, false, false, false, false, false] rfl rfl (by kernel_rfl) (fun _ _ _ h => h) (Or.inl ⟨by rfl, ?_⟩) ?_ ?_
    rotate_left
    · intro w'
      go_simp
      with_reducible rfl
    rotate_left
    · simp only [Act.put, List.setIfInBounds_toArray, List.set_cons_zero, List.set_cons_succ, i64_w, i32_w]
      rfl
    refine pure_ (i := 5) (N := some 80) (v := ?_) (a' := ?_) #[true, true, true, false, true, true, false, false, false, false] rfl rfl (by kernel_rfl) (fun _ _ _ h => h) (Or.inl ⟨by rfl, ?_⟩) ?_ ?_
    rotate_left
    · intro w'
      go_simp
      with_reducible rfl
    rotate_left
    · simp only [Act.put, List.setIfInBounds_toArray, List.set_cons_zero, List.set_cons_succ, i64_w, i32_w]
      rfl
    refine pure_ (i := 6) (N := some 81) (v := ?_) (a' := ?_) #[true, true, true, false, true, true, true, false, false, false] rfl rfl (by kernel_rfl) (fun _ _ _ h => h) (Or.inl ⟨by rfl, ?_⟩) ?_ ?_
    rotate_left
    · intro w'
      go_simp
      with_reducible rfl
    rotate_left
    · simp only [Act.put, List.setIfInBounds_toArray, List.set_cons_zero, List.set_cons_succ, i64_w, i32_w]
      rfl
    refine take_ (i := 3) (N := some 78) (v := ?_) (a' := ?_) #[true, true, true, true, true, true, true, false, false, false] rfl rfl (by kernel_rfl) (fun _ _ _ h => h) (Or.inl ⟨by rfl, ?_⟩) hHeld ?_ ?_
    rotate_left
    · rintro w' ⟨s0, s1, s2, s3⟩
      go_simp
      with_reducible rfl
    rotate_left
    · simp only [Act.put, List.setIfInBounds_toArray, List.set_cons_zero, List.set_cons_succ, i64_w, i32_w]
      rfl
    refine take_ (i := 7) (N := some 82) (v := ?_) (a' := ?_) #[true, true, true, true, true, true, true, true, false, false] rfl rfl (by kernel_rfl) (fun _ _ _ h => h) (Or.inl ⟨by rfl, ?_⟩) hHeld ?_ ?_
    rotate_left
    · rintro w' ⟨s0, s1, s2, s3⟩
      go_simp
      with_reducible rfl
    rotate_left
    · simp only [Act.put, List.setIfInBounds_toArray, List.set_cons_zero, List.set_cons_succ, i64_w, i32_w]
      rfl
    refine one_ (i := 8) (N := some 83) #[true, true, true, true, true, true, true, true, true, false] rfl rfl (by kernel_rfl) (by decide) (fun K hK => ?_)
    refine goes_ Try.func24 (by kernel_rfl) rfl #[.agg #[.int .i64 id, .slice A1 n1 c1], .agg #[.int .i64 id, .slice A2 n2 c2]] (by rfl) rfl rfl (by simp only [List.map_toArray, List.map_cons, List.map_nil]; rfl) ?_
    with_reducible refine (hSm.out _ ((Below.refl wr.heap.size wr).drew)).mono ?_
    rintro e U ⟨rfl, hBU⟩
    refine ⟨_, rfl, ?_⟩
    refine hK.out _ _ ⟨(pw_cell_below hBU y0), (pw_cell_below hBU y1), (pw_cell_below hBU z0), (pw_cell_below hBU z1)⟩ (fun hHeld => ?_)
    clear hK K
    refine norm_ (a' := ?_) ?_ ?_
    rotate_left
    · show Act.put _ (some 83) _ = _
      simp only [Act.put, List.setIfInBounds_toArray, List.set_cons_zero, List.set_cons_succ, i64_w, i32_w]
      rfl
    refine pure_ (i := 9) (N := some 84) (v := ?_) (a' := ?_) #[true, true, true, true, true, true, true, true, true, true] rfl rfl (by kernel_rfl) (fun _ _ _ h => h) (Or.inl ⟨by rfl, ?_⟩) ?_ ?_
    rotate_left
    · intro w'
      go_simp
      with_reducible rfl
    rotate_left
    · simp only [Act.put, List.setIfInBounds_toArray, List.set_cons_zero, List.set_cons_succ, i64_w, i32_w]
      rfl
    refine done_ (by kernel_rfl) ?_
    have hX : Below wr.heap.size wr U := (Below.refl wr.heap.size wr).drew.trans hBU
    go_wp2
    go_roundg (k - (j + 1))
    case measure => omega
    case rel => exact ⟨j + 1, by congr 1, by omega, rfl, hwj.trans (hX.mono hwj.size)⟩
  obtain rfl : j = k := by omega
  have hBj := hB4.trans (hwj.mono hB4.size)
  obtain ⟨i, hi, hii⟩ : ∃ i : Nat, i < T.length ∧ wrap64 ((IntKind.u64.wrap at_).tmod (T.length : Int)) = (i : Int) := by
    have hp := hTl.out
    have u0 : 0 ≤ IntKind.u64.wrap at_ := by rw [IntKind.wrap_u64]; omega
    have e1 : (IntKind.u64.wrap at_).tmod (T.length : Int) = IntKind.u64.wrap at_ % (T.length : Int) := Int.tmod_eq_emod_of_nonneg u0
    have e2 : 0 ≤ IntKind.u64.wrap at_ % (T.length : Int) := Int.emod_nonneg _ (by omega)
    have e3 : IntKind.u64.wrap at_ % (T.length : Int) < (T.length : Int) := Int.emod_lt_of_pos _ (by omega)
    refine ⟨(IntKind.u64.wrap at_ % (T.length : Int)).toNat, by omega, ?_⟩
    rw [e1]
    unfold wrap64
    omega
  have j0 : (0 : Int) ≤ (i : Int) := by omega
  have j1 : (i : Int) ≤ (T.length : Int) := by omega
  have hcut : Hid (ended (rdB cols (some (T.take i))).2 = false) := by
    refine rdB_cut (t := T.drop i) (fun h => ?_) (by rw [List.take_append_drop, hEnc.out])
    have := congrArg List.length h
    simp at this
    omega
  have hX1 := Lib.hid (hTake.out i)
  have hRq : Hid (Calls Try.prog 62 #[.string (Q.extract 0 i), .slice C nc cc] wr (StB wr (rdB cols (some (T.take i))))) := by
    rw [hX1.out]
    exact read62 ⟨(T.take i).toArray⟩ C nc cc cols wr (by
      have := hTl.out.1
      show (T.take i).length ≤ 8000000
      rw [List.length_take]; omega) (rdC_below hc.out hBj)
  have hne2 : ¬ ((T.length : Int) = 0) := by omega
  have hne3 : ((T.length : Int) == 0) = false := by simpa using hne2
  have hTb := hTl.out.1
  have hTz : T.length < 18446744073709551616 := by omega
  have hTw : IntKind.u64.wrap (T.length : Int) = (T.length : Int) := by rw [IntKind.wrap_u64]; omega
  go_wp2_with fail
  (with_reducible refine hRq.out.mono ?_)
  rintro e W6 ⟨hB6, ⟨he, _⟩ | ⟨_, rfl⟩⟩
  · rw [hcut.out] at he; cases he
  go_wp2_with fail
  (with_reducible refine (hAw.out _).mono ?_)
  rintro e W7 ⟨rfl, hB7⟩
  go_wp2
  go_ret
  have hB6 := hBj.trans (hB6.mono hBj.size)
  exact ⟨rfl, hB6.trans (hB7.mono hB6.size)⟩
end Go.Proofs.Ytegkclehijdbiaa.SB
