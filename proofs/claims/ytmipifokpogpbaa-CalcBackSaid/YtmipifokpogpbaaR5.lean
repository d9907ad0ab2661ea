import Derived.Test.YtmipifokpogpbaaR4
namespace Go.Proofs.Ytmipifokpogpbaa.R5
open Go.RowKit Go.Proofs.YtmipifokpogpbaaW.PrintWords Go.Proofs.Ytmipifokpogpbaa.M Go.Proofs.Ytmipifokpogpbaa.R1 Go.Proofs.Ytmipifokpogpbaa.R2 Go.Proofs.Ytmipifokpogpbaa.R3 Go.Proofs.Ytmipifokpogpbaa.R4

def absI (a : Int) : Int := if a < 0 then -a else a
theorem absI_neg {a : Int} (h : a < 0) : absI a = -a := if_pos h
theorem absI_pos {a : Int} (h : 0 ≤ a) : absI a = a := if_neg (by omega)
theorem sgn_abs (a : Int) : sgn (decide (a < 0)) (absI a) = a := by
  unfold sgn absI
  by_cases h : a < 0 <;> simp [h] <;> omega

theorem of_step {zs : List Int} {k : Nat} {u v : Int} (dz : Dg zs) (hl : zs.length = k) (hv : val zs + 10 ^ k * u = v) :
    Dg (zs ++ [u % 10]) ∧ (zs ++ [u % 10]).length = k + 1 ∧ val (zs ++ [u % 10]) + 10 ^ (k + 1) * (u / 10) = v := by
  refine ⟨dz.snoc (by omega) (by omega), by simp [hl], ?_⟩
  rw [val_snoc, hl, Int.pow_succ]
  have : u = u % 10 + 10 * (u / 10) := by omega
  generalize u % 10 = r at *
  generalize u / 10 = q at *
  grind

theorem of_kb {u : Int} {k : Nat} (h : u < 10 ^ (20 - k)) (hp : 0 < u) (hk : k ≤ 20) : k ≤ 19 := by
  rcases Nat.lt_or_ge k 20 with h1 | h1
  · omega
  · rw [show 20 - k = 0 by omega] at h; simp at h; omega
theorem of_ub {u : Int} {k : Nat} (h : u < 10 ^ (20 - k)) (hk : k ≤ 19) : u / 10 < 10 ^ (20 - (k + 1)) := by
  rw [show 20 - k = (20 - (k + 1)) + 1 by omega, Int.pow_succ] at h
  omega

set_option maxHeartbeats 2000000 in
theorem of_ (a : Int) (w : World) (h1 : -9223372036854775808 ≤ a) (h2 : a ≤ 9223372036854775807) : Calls Try.prog 15 #[.int .i64 a] w (NumR w a) := by
  have ha : 0 ≤ absI a ∧ absI a ≤ 9223372036854775808 := by unfold absI; split <;> omega
  have Hs := Lib.hid (sgn_abs a)
  by_cases hn : a < 0
  · have hab := Lib.hid (absI_neg hn)
    have hdec : decide (a < 0) = true := by simpa using hn
    have e1 : IntKind.u64.wrap (-IntKind.u64.wrap a) = absI a := by rw [hab.out]; simp only [IntKind.wrap_u64]; omega
    go_enter Try.func15, Try.ntmps15
    go_wp2
    have Hb0 : Hid ((w.alloc (.cells #[.bool false, .slice none 0 0] 29)).heap[w.heap.size]? = some (.cells #[.bool false, .slice none 0 0] 29 (0, 0))) := get_new _ _ _ rfl
    go_loopw [3, 4] (fun u v wr => ∃ (k : Nat) (uu : Int) (zs : List Int), u = .int .u64 uu ∧ 0 ≤ uu ∧ uu ≤ 9223372036854775808 ∧ Hid (uu < 10 ^ (20 - k)) ∧ k ≤ 20 ∧ Hid (zs.length = k) ∧ wr.ownsRow (w.heap.size + 1) 3 1 v zs.length (nums .i64 zs) ∧ Below (w.heap.size + 1) (w.alloc (.cells #[.bool false, .slice none 0 0] 29)) wr ∧ Dg zs ∧ Hid (val zs + 10 ^ k * uu = absI a)) (fun u _ _ => (intOf u).toNat)
    case atStart => exact ⟨0, absI a, [], rfl, ha.1, ha.2, by show absI a < 10 ^ 20; omega, by omega, rfl, own_nil _ _ _ _, Below.refl _ _, Dg.nil, by simp [Hid, val]⟩
    case round =>
      obtain ⟨k, uu, zs, rfl, u0, u1, hub, hk, hl, hown, hB, dz, hv⟩ := hrel
      have hB2 : Below w.heap.size w wr := ((Below.refl _ w).alloc (Nat.le_refl _) _).trans (hB.mono (by omega))
      have hsz : w.heap.size + 1 ≤ wr.heap.size := by have := hB.size; simpa using this
      have hb : Hid (wr.heap[w.heap.size]? = some (.cells #[.bool false, .slice none 0 0] 29 (0, 0))) := (hB.block _ (by omega)).trans Hb0.out
      by_cases hpos : 0 < uu
      · have hkl := of_kb hub.out hpos hk
        have hst := Lib.hid (of_step dz hl.out hv.out)
        have hst2 := Lib.hid (of_ub hub.out hkl)
        have hzl : zs.length ≤ 20 := by have := hl.out; omega
        clear Hb0
        go_wp2_with (at_builtin; refine print_append_num (w0 := w.alloc (.cells #[.bool false, .slice none 0 0] 29)) (w.heap.size + 1) rfl (.tmp 13) (.tmp 17) 27 3 .i64 8 rfl Try.underlying27 info3 (by omega) u4 zs _ rfl rfl hown hB hsz (by omega) ?_; intro v1 w1 hown1 hB1 hg1 _)
        go_roundw
        case rel => exact ⟨k + 1, uu / 10, _, by go_num, by omega, by omega, hst2.out, by omega, hst.out.2.1, hown1, hB1, hst.out.1, hst.out.2.2⟩
        case measure => simp [intOf] <;> omega
      · obtain rfl : uu = 0 := by omega
        have hve := Lib.hid (show val zs = absI a by have := hv.out; simpa using this)
        obtain ⟨C, cap, rfl, hrd⟩ := own_reads hown
        have f0 : wr.cell? ⟨w.heap.size, 0, none⟩ = some (.bool false) := (blk_cell hb.out 0).trans rfl
        have f1 : wr.cell? ⟨w.heap.size, 1, none⟩ = some (.slice none 0 0) := (blk_cell hb.out 1).trans rfl
        have f2 := blk_frozen hb.out
        have hlt : w.heap.size < wr.heap.size := by omega
        go_wp2_with (go_at_call 37; (with_reducible refine (sign _ C _ cap zs _ hrd (own_le hown) (own_cap hown) dz).mono ?_); rintro e w2 ⟨_, rfl, ⟨neg', A', c', ds', rfl, hr2, l1, l2, hx'⟩, hB3⟩; obtain ⟨hc2, hf2⟩ := bcell hB3)
        all_goals
          have hb2 : w2.heap[w.heap.size]? = some (.cells #[.bool false, .slice none 0 0] 29 (0, 0)) := (hB3.block _ (by omega)).trans hb.out
          refine bodyPost_num rfl (num_set (b0 := false) hb2 hr2 l1 l2 (by have e := hx'; rw [hve.out] at e; have e2 := Hs.out; simp only [hdec] at e2; rw [e2] at e; exact e) ?_ (by omega) rfl _ rfl)
          exact Below.trans hB2 (hB3.mono (by omega))
  · have hn' : 0 ≤ a := by omega
    have hab := Lib.hid (absI_pos hn')
    have hdec : decide (a < 0) = false := by simpa using hn
    have e1 : IntKind.u64.wrap a = absI a := by rw [hab.out]; simp only [IntKind.wrap_u64]; omega
    go_enter Try.func15, Try.ntmps15
    go_wp2
    have Hb0 : Hid ((w.alloc (.cells #[.bool false, .slice none 0 0] 29)).heap[w.heap.size]? = some (.cells #[.bool false, .slice none 0 0] 29 (0, 0))) := get_new _ _ _ rfl
    go_loopw [3, 4] (fun u v wr => ∃ (k : Nat) (uu : Int) (zs : List Int), u = .int .u64 uu ∧ 0 ≤ uu ∧ uu ≤ 9223372036854775808 ∧ Hid (uu < 10 ^ (20 - k)) ∧ k ≤ 20 ∧ Hid (zs.length = k) ∧ wr.ownsRow (w.heap.size + 1) 3 1 v zs.length (nums .i64 zs) ∧ Below (w.heap.size + 1) (w.alloc (.cells #[.bool false, .slice none 0 0] 29)) wr ∧ Dg zs ∧ Hid (val zs + 10 ^ k * uu = absI a)) (fun u _ _ => (intOf u).toNat)
    case atStart => exact ⟨0, absI a, [], rfl, ha.1, ha.2, by show absI a < 10 ^ 20; omega, by omega, rfl, own_nil _ _ _ _, Below.refl _ _, Dg.nil, by simp [Hid, val]⟩
    case round =>
      obtain ⟨k, uu, zs, rfl, u0, u1, hub, hk, hl, hown, hB, dz, hv⟩ := hrel
      have hB2 : Below w.heap.size w wr := ((Below.refl _ w).alloc (Nat.le_refl _) _).trans (hB.mono (by omega))
      have hsz : w.heap.size + 1 ≤ wr.heap.size := by have := hB.size; simpa using this
      have hb : Hid (wr.heap[w.heap.size]? = some (.cells #[.bool false, .slice none 0 0] 29 (0, 0))) := (hB.block _ (by omega)).trans Hb0.out
      by_cases hpos : 0 < uu
      · have hkl := of_kb hub.out hpos hk
        have hst := Lib.hid (of_step dz hl.out hv.out)
        have hst2 := Lib.hid (of_ub hub.out hkl)
        have hzl : zs.length ≤ 20 := by have := hl.out; omega
        clear Hb0
        go_wp2_with (at_builtin; refine print_append_num (w0 := w.alloc (.cells #[.bool false, .slice none 0 0] 29)) (w.heap.size + 1) rfl (.tmp 13) (.tmp 17) 27 3 .i64 8 rfl Try.underlying27 info3 (by omega) u4 zs _ rfl rfl hown hB hsz (by omega) ?_; intro v1 w1 hown1 hB1 hg1 _)
        go_roundw
        case rel => exact ⟨k + 1, uu / 10, _, by go_num, by omega, by omega, hst2.out, by omega, hst.out.2.1, hown1, hB1, hst.out.1, hst.out.2.2⟩
        case measure => simp [intOf] <;> omega
      · obtain rfl : uu = 0 := by omega
        have hve := Lib.hid (show val zs = absI a by have := hv.out; simpa using this)
        obtain ⟨C, cap, rfl, hrd⟩ := own_reads hown
        have f0 : wr.cell? ⟨w.heap.size, 0, none⟩ = some (.bool false) := (blk_cell hb.out 0).trans rfl
        have f1 : wr.cell? ⟨w.heap.size, 1, none⟩ = some (.slice none 0 0) := (blk_cell hb.out 1).trans rfl
        have f2 := blk_frozen hb.out
        have hlt : w.heap.size < wr.heap.size := by omega
        go_wp2_with (go_at_call 37; (with_reducible refine (sign _ C _ cap zs _ hrd (own_le hown) (own_cap hown) dz).mono ?_); rintro e w2 ⟨_, rfl, ⟨neg', A', c', ds', rfl, hr2, l1, l2, hx'⟩, hB3⟩; obtain ⟨hc2, hf2⟩ := bcell hB3)
        all_goals
          have hb2 : w2.heap[w.heap.size]? = some (.cells #[.bool false, .slice none 0 0] 29 (0, 0)) := (hB3.block _ (by omega)).trans hb.out
          refine bodyPost_num rfl (num_set (b0 := false) hb2 hr2 l1 l2 (by have e := hx'; rw [hve.out] at e; have e2 := Hs.out; simp only [hdec] at e2; rw [e2] at e; exact e) ?_ (by omega) rfl _ rfl)
          exact Below.trans hB2 (hB3.mono (by omega))
end Go.Proofs.Ytmipifokpogpbaa.R5
