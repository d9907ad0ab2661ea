import Derived.Test.YtmipifokpogpbaaWWords
import Derived.Test.YtmipifokpogpbaaM
import Derived.Test.YtmipifokpogpbaaProg
import Derived.Handy
import Derived.Lib.Hide
namespace Go.Proofs.Ytmipifokpogpbaa.R1
open Go.RowKit Go.Proofs.YtmipifokpogpbaaW.PrintWords Go.Proofs.Ytmipifokpogpbaa.M

theorem rd_getD (xs : List Int) (i : Nat) : rd xs (i : Int) = xs.getD i 0 := by simp [rd]
theorem rd_out (xs : List Int) (i : Nat) (h : xs.length ≤ i) : rd xs (i : Int) = 0 := by rw [rd_getD, List.getD_eq_getElem?_getD, List.getElem?_eq_none h]; rfl

set_option maxHeartbeats 400000 in
theorem at_ (A : Option Addr) (n c : Nat) (xs : List Int) (i : Nat) (w : World) (hr : ReadsInt w .i64 A n xs) :
    Calls Try.prog 50 #[.slice A n c, .int .i64 i] w fun e w' => e = .returned (.int .i64 (rd xs i)) ∧ w = w' := by
  have hl := Lib.hid hr.1
  by_cases h : i < n
  · obtain ⟨ad, rfl, hc⟩ := hr.at_ i (by omega) (by omega)
    rw [Int.toNat_natCast] at hc
    go_enter Try.func50, Try.ntmps50
    go_wp2
    go_ret
    exact ⟨rfl, rfl⟩
  · have h0 := Lib.hid (rd_out xs i (by have := hl.out; omega))
    go_enter Try.func50, Try.ntmps50
    go_wp2
    go_ret
    exact ⟨by rw [h0.out]; rfl, rfl⟩

theorem trimN_succ (l : List Int) (n : Nat) : trimN l (n + 1) = if rd l n = 0 then trimN l n else n + 1 := by rw [trimN, rd_getD]

set_option maxHeartbeats 400000 in
theorem trim (A : Option Addr) (n c : Nat) (xs : List Int) (w : World) (hr : ReadsInt w .i64 A n xs) (hnc : n ≤ c) (hc : c ≤ maxLen) :
    Calls Try.prog 49 #[.slice A n c] w fun e w' => e = .returned (.slice A (trimN xs n) c) ∧ w = w' := by
  unfold maxLen at hc
  have hl := Lib.hid hr.1
  go_enter Try.func49, Try.ntmps49
  go_wp2
  go_loop [0] (fun v => ∃ m : Nat, m ≤ n ∧ v = .slice A m c ∧ Hid (trimN xs n = trimN xs m)) (fun v => match v with | .slice _ m _ => m | _ => 0)
  case atStart => exact ⟨n, by omega, rfl, rfl⟩
  case round =>
    obtain ⟨m, hm, rfl, ht⟩ := hrel
    rcases m with _ | m
    · go_wp2
      go_ret
      exact ⟨by rw [ht.out]; rfl, rfl⟩
    · have hs := Lib.hid (trimN_succ xs m)
      obtain ⟨ad, rfl, hcell⟩ := hr.at_ m (by omega) (by omega)
      rw [Int.toNat_natCast] at hcell
      have h1 : IntKind.i64.wrap ((m : Int) + 1 - 1) = m := by rw [IntWalk.i64_in _ (by omega)]; omega
      by_cases h0 : rd xs m = 0
      · go_wp2
        exact ⟨⟨m, by omega, rfl, by unfold Hid; rw [ht.out, hs.out, if_pos h0]⟩, by simp⟩
      · have h2 : (rd xs m == 0) = false := beq_eq_false_iff_ne.2 h0
        go_wp2
        go_ret
        exact ⟨by rw [ht.out, hs.out, if_neg h0]; rfl, rfl⟩

/-- A slice value that reads as these numbers. -/
def Rd (k : IntKind) (w : World) (v : Value) (xs : List Int) : Prop := ∃ A c, v = .slice A xs.length c ∧ xs.length ≤ c ∧ c ≤ maxLen ∧ ReadsInt w k A xs.length xs

theorem info3 : (Try.prog.info? 3).map (fun i => (i.zero, i.size, i.bytes)) = some (some (.int .i64 0), 1, 8) := by kernel_rfl

/-- Digits of one's own: what they are together, and how many there are at most. -/
def OwnD (w : World) (x : Int) (N : Nat) (e : Ending) (w' : World) : Prop :=
  ∃ v zs, e = .returned v ∧ w'.ownsRow w.heap.size 3 1 v zs.length (nums .i64 zs) ∧ Dg zs ∧ val zs = x ∧ zs.length ≤ N ∧ Below w.heap.size w w'

theorem add_step {xs ys zs : List Int} {k : Nat} {cr : Int} (dx : Dg xs) (dy : Dg ys) (dz : Dg zs) (h0 : 0 ≤ cr) (h1 : cr ≤ 1) (hl : zs.length = k) (hv : val zs + 10 ^ k * cr = val (xs.take k) + val (ys.take k)) :
    let s := rd xs k + rd ys k + cr
    0 ≤ s / 10 ∧ s / 10 ≤ 1 ∧ Dg (zs ++ [s % 10]) ∧ (zs ++ [s % 10]).length = k + 1 ∧ val (zs ++ [s % 10]) + 10 ^ (k + 1) * (s / 10) = val (xs.take (k + 1)) + val (ys.take (k + 1)) := by
  intro s
  have a := dx.get k
  have b := dy.get k
  rw [← rd_getD] at a b
  have hs : 0 ≤ s ∧ s ≤ 19 := by show 0 ≤ _ + _ + _ ∧ _ + _ + _ ≤ _; omega
  refine ⟨by omega, by omega, dz.snoc (by omega) (by omega), by simp [hl], ?_⟩
  rw [val_snoc, val_take_succ, val_take_succ, hl, Int.pow_succ, ← rd_getD, ← rd_getD]
  have h10 : s = s % 10 + 10 * (s / 10) := by omega
  have : (10 : Int) ^ k * s = 10 ^ k * (rd xs k + rd ys k + cr) := rfl
  generalize s % 10 = r at *
  generalize s / 10 = q at *
  grind

set_option maxHeartbeats 1000000 in
theorem add_ (A B : Option Addr) (n c m d : Nat) (xs ys : List Int) (w : World) (hr : ReadsInt w .i64 A n xs) (hs : ReadsInt w .i64 B m ys) (dx : Dg xs) (dy : Dg ys) (hn : n ≤ 1000000) (hm : m ≤ 1000000) :
    Calls Try.prog 38 #[.slice A n c, .slice B m d] w (OwnD w (val xs + val ys) 1000001) := by
  have hxl := Lib.hid hr.1
  have hyl := Lib.hid hs.1
  go_enter Try.func38, Try.ntmps38
  go_wp2
  go_loopw [5, 6, 7] (fun v cy i wr => ∃ (k : Nat) (zs : List Int) (cr : Int), i = .int .i64 k ∧ cy = .int .i64 cr ∧ 0 ≤ cr ∧ cr ≤ 1 ∧ k ≤ 1000001 ∧ Hid (zs.length = k) ∧ wr.ownsRow w.heap.size 3 1 v zs.length (nums .i64 zs) ∧ Below w.heap.size w wr ∧ Dg zs ∧ Hid (val zs + 10 ^ k * cr = val (xs.take k) + val (ys.take k)) ∧ (k ≤ n ∨ k ≤ m ∨ Hid (cr = 0))) (fun _ _ i _ => 1000001 - (intOf i).toNat)
  case atStart => exact ⟨0, [], 0, rfl, rfl, by omega, by omega, by omega, rfl, own_nil _ _ _ _, Below.refl _ _, Dg.nil, by simp [Hid, val], .inl (by omega)⟩
  case round =>
    obtain ⟨k, zs, cr, rfl, rfl, h0, h1, hk, hl, hown, hB, dz, hv, hend⟩ := hrel
    have hst := Lib.hid (add_step dx dy dz h0 h1 hl.out hv.out)
    have hra : ReadsInt wr .i64 A n xs := hr.below hB
    have hrb : ReadsInt wr .i64 B m ys := hs.below hB
    have ha := dx.get k
    have hb := dy.get k
    rw [← rd_getD] at ha hb
    obtain ⟨ha0, ha9⟩ := ha
    obtain ⟨hb0, hb9⟩ := hb
    have hsz := hB.size
    have hzl : zs.length ≤ 1000001 := by have := hl.out; omega
    by_cases hgo : (k < n ∨ k < m) ∨ 0 < cr
    · have hk2 : k ≤ 1000000 := by
        rcases hend with h | h | h
        · omega
        · omega
        · have := h.out; omega
      have hend' := Lib.hid (show k + 1 ≤ n ∨ k + 1 ≤ m ∨ Hid ((rd xs k + rd ys k + cr) / 10 = 0) by
        by_cases h1 : k < n
        · exact .inl h1
        · by_cases h2 : k < m
          · exact .inr (.inl h2)
          · refine .inr (.inr ?_)
            have e1 := rd_out xs k (by have := hxl.out; omega)
            have e2 := rd_out ys k (by have := hyl.out; omega)
            show _ = _
            omega)
      clear hend
      go_wp2_with (first | (go_at_call 50; (with_reducible refine (at_ A n c xs k wr hra).mono ?_); rintro e w' ⟨rfl, rfl⟩) | (go_at_call 50; (with_reducible refine (at_ B m d ys k wr hrb).mono ?_); rintro e w' ⟨rfl, rfl⟩) | (at_builtin; refine print_append_num (w0 := w) w.heap.size rfl (.tmp 34) (.tmp 37) 27 3 .i64 8 rfl Try.underlying27 info3 (by omega) u5 zs _ rfl rfl hown hB hsz (by omega) ?_; intro v1 w1 hown1 hB1 hg1 _))
      all_goals
        go_roundw
        case rel => exact ⟨k + 1, _, _, by go_num, rfl, hst.out.1, hst.out.2.1, by omega, hst.out.2.2.2.1, hown1, hB1, hst.out.2.2.1, hst.out.2.2.2.2, hend'.out⟩
        case measure => simp [intOf] <;> omega
    · go_wp2
      go_ret
      have hcr : cr = 0 := by omega
      refine ⟨u5, zs, rfl, hown, dz, ?_, hzl, hB⟩
      have hv := hv.out
      have hxl := hxl.out
      have hyl := hyl.out
      rw [hcr, List.take_of_length_le (by omega), List.take_of_length_le (by omega)] at hv
      omega

theorem quiet_eq {P : Program} {f : FuncId} {args : Array Value} {w : World} {n : Nat} {v : Value} (h : Calls P f args (w.drewN n) fun e w' => e = .returned v ∧ w.drewN n = w') :
    Calls P f args (w.drewN n) fun e w'' => e = .returned v ∧ ∃ m, w'' = w.drewN m := h.mono fun _ _ ⟨he, hm⟩ => ⟨he, n, hm.symm⟩

theorem sub_step {xs ys zs : List Int} {k : Nat} {br : Int} (dx : Dg xs) (dy : Dg ys) (dz : Dg zs) (h0 : 0 ≤ br) (h1 : br ≤ 1) (hl : zs.length = k) (hv : val zs - 10 ^ k * br = val (xs.take k) - val (ys.take k)) :
    let s := 10 + rd xs k - rd ys k - br
    0 ≤ 1 - s / 10 ∧ 1 - s / 10 ≤ 1 ∧ Dg (zs ++ [s % 10]) ∧ (zs ++ [s % 10]).length = k + 1 ∧ val (zs ++ [s % 10]) - 10 ^ (k + 1) * (1 - s / 10) = val (xs.take (k + 1)) - val (ys.take (k + 1)) := by
  intro s
  have a := dx.get k
  have b := dy.get k
  rw [← rd_getD] at a b
  have hs : 0 ≤ s ∧ s ≤ 19 := by show 0 ≤ _ + _ - _ - _ ∧ _ + _ - _ - _ ≤ _; omega
  refine ⟨by omega, by omega, dz.snoc (by omega) (by omega), by simp [hl], ?_⟩
  rw [val_snoc, val_take_succ, val_take_succ, hl, Int.pow_succ, ← rd_getD, ← rd_getD]
  have h10 : s = s % 10 + 10 * (s / 10) := by omega
  have : (10 : Int) ^ k * s = 10 ^ k * (10 + rd xs k - rd ys k - br) := rfl
  generalize s % 10 = r at *
  generalize s / 10 = q at *
  grind

set_option maxHeartbeats 1000000 in
theorem sub_ (A B : Option Addr) (n c m d : Nat) (xs ys : List Int) (w : World) (hr : ReadsInt w .i64 A n xs) (hs : ReadsInt w .i64 B m ys) (dx : Dg xs) (dy : Dg ys) (hn : n ≤ 1000000) (hmn : m ≤ n) (hle : val ys ≤ val xs) :
    Calls Try.prog 40 #[.slice A n c, .slice B m d] w (OwnD w (val xs - val ys) 1000000) := by
  have hxl := Lib.hid hr.1
  have hyl := Lib.hid hs.1
  have Hle := Lib.hid hle
  clear hle
  go_enter Try.func40, Try.ntmps40
  go_wp2
  go_loopw [5, 6, 7] (fun v cy i wr => ∃ (k : Nat) (zs : List Int) (cr : Int), i = .int .i64 k ∧ cy = .int .i64 cr ∧ 0 ≤ cr ∧ cr ≤ 1 ∧ k ≤ n ∧ Hid (zs.length = k) ∧ wr.ownsRow w.heap.size 3 1 v zs.length (nums .i64 zs) ∧ Below w.heap.size w wr ∧ Dg zs ∧ Hid (val zs - 10 ^ k * cr = val (xs.take k) - val (ys.take k))) (fun _ _ i _ => n - (intOf i).toNat)
  case atStart => exact ⟨0, [], 0, rfl, rfl, by omega, by omega, by omega, rfl, own_nil _ _ _ _, Below.refl _ _, Dg.nil, by simp [Hid, val]⟩
  case round =>
    obtain ⟨k, zs, cr, rfl, rfl, h0, h1, hk, hl, hown, hB, dz, hv⟩ := hrel
    have hst := Lib.hid (sub_step dx dy dz h0 h1 hl.out hv.out)
    have hra : ReadsInt wr .i64 A n xs := hr.below hB
    have hrb : ReadsInt wr .i64 B m ys := hs.below hB
    have ha := dx.get k
    have hb := dy.get k
    rw [← rd_getD] at ha hb
    obtain ⟨ha0, ha9⟩ := ha
    obtain ⟨hb0, hb9⟩ := hb
    have hsz := hB.size
    have hzl : zs.length ≤ 1000000 := by have := hl.out; omega
    by_cases hgo : k < n
    · obtain ⟨ad, rfl, hcell⟩ := hra.at_ k (by omega) (by omega)
      rw [Int.toNat_natCast] at hcell
      have q0 : (0 : Int) ≤ (k : Int) := by omega
      have q1 : (k : Int) < (n : Int) := by omega
      have e1 := IntWalk.i64_in (10 + rd xs k) (by omega)
      have e2 := IntWalk.i64_in (10 + rd xs k - rd ys k) (by omega)
      have e3 := IntWalk.i64_in (10 + rd xs k - rd ys k - cr) (by omega)
      go_wp2
      go_quiet ((go_at_call 50; exact quiet_eq (at_ B m d ys k _ (hrb.below (by first | exact Below.refl _ _ | exact pw_below_drewN (Below.refl _ _) _)))))
      clear e1 e2 e3
      have hown' : (wr.drewN nq).ownsRow w.heap.size 3 1 u5 zs.length (nums .i64 zs) := hown
      have hB' : Below w.heap.size w (wr.drewN nq) := pw_below_drewN hB nq
      go_wp2_with (at_builtin; refine print_append_num (w0 := w) w.heap.size rfl (.tmp 26) (.tmp 29) 27 3 .i64 8 rfl Try.underlying27 info3 (by omega) u5 zs _ rfl rfl hown' hB' hsz (by omega) ?_; intro v1 w1 hown1 hB1 hg1 _)
      go_roundw
      case rel => exact ⟨k + 1, _, _, by go_num, rfl, hst.out.1, hst.out.2.1, by omega, hst.out.2.2.2.1, hown1, hB1, hst.out.2.2.1, hst.out.2.2.2.2⟩
      case measure => simp [intOf] <;> omega
    · go_wp2
      go_ret
      refine ⟨u5, zs, rfl, hown, dz, ?_, hzl, hB⟩
      have hv := hv.out
      have hxl := hxl.out
      have hyl := hyl.out
      have hll := hl.out
      have hkn : k = n := by omega
      rw [List.take_of_length_le (by omega), List.take_of_length_le (by omega)] at hv
      have h3 := val_lt dz
      rw [hll] at h3
      have h4 := val_nonneg dz
      have h5 : cr = 0 := by
        rcases (show cr = 0 ∨ cr = 1 by omega) with h | h
        · exact h
        · rw [h] at hv; have := Hle.out; omega
      rw [h5] at hv
      omega

theorem drop_step {xs ys : List Int} {k : Nat} (hk : k < xs.length) (hl : xs.length = ys.length) (h : xs.drop (k + 1) = ys.drop (k + 1)) (he : rd xs k = rd ys k) : xs.drop k = ys.drop k := by
  rw [List.drop_eq_getElem_cons hk, List.drop_eq_getElem_cons (show k < ys.length by omega), h]
  congr 1
  rw [rd_getD, rd_getD, List.getD_eq_getElem?_getD, List.getD_eq_getElem?_getD, List.getElem?_eq_getElem hk, List.getElem?_eq_getElem (by omega)] at he
  exact he

set_option maxHeartbeats 1000000 in
theorem less_ (A B : Option Addr) (n c m d : Nat) (xs ys : List Int) (w : World) (hr : ReadsInt w .i64 A n xs) (hs : ReadsInt w .i64 B m ys) (dx : Dg xs) (dy : Dg ys) (cx : Canon xs) (cy : Canon ys) (hn : n ≤ 1000000) (hm : m ≤ 1000000) :
    Calls Try.prog 39 #[.slice A n c, .slice B m d] w fun e w' => e = .returned (.bool (decide (val xs < val ys))) ∧ ∃ q, w' = w.drewN q := by
  have hxl := Lib.hid hr.1
  have hyl := Lib.hid hs.1
  by_cases hne : n = m
  · subst hne
    go_enter Try.func39, Try.ntmps39
    go_wp2
    go_loopw [5] (fun i wr => ∃ k : Nat, k ≤ n ∧ i = .int .i64 ((k : Int) - 1) ∧ Hid (xs.drop k = ys.drop k) ∧ ∃ q, wr = w.drewN q) (fun i _ => (intOf i + 1).toNat)
    case atStart => exact ⟨n, by omega, rfl, by show _ = _; rw [List.drop_eq_nil_of_le (by have := hxl.out; omega), List.drop_eq_nil_of_le (by have := hyl.out; omega)], 0, rfl⟩
    case round =>
      obtain ⟨k, hk, rfl, he, q, rfl⟩ := hrel
      rcases k with _ | k
      · have hfin := Lib.hid (show decide (val xs < val ys) = false by
          have := he.out
          simp only [List.drop_zero] at this
          rw [this]; simp)
        go_wp2
        go_ret
        exact ⟨by rw [hfin.out]; rfl, q, rfl⟩
      · have hw1 : ((k + 1 : Nat) : Int) - 1 = (k : Int) := by omega
        rw [hw1]
        clear hw1
        obtain ⟨ad, rfl, hcx⟩ := hr.at_ k (by omega) (by omega)
        obtain ⟨bd, rfl, hcy⟩ := hs.at_ k (by omega) (by omega)
        rw [Int.toNat_natCast] at hcx hcy
        have q0 : (0 : Int) ≤ (k : Int) := by omega
        have q1 : (k : Int) < (n : Int) := by omega
        by_cases hd : rd xs k = rd ys k
        · have hd1 : (rd xs k != rd ys k) = false := by simp [hd]
          have Hd := Lib.hid hd
          clear hd
          go_wp2
          go_quiet (fail)
          go_wp2
          go_roundw
          case rel => exact ⟨k, by omega, rfl, drop_step (by have := hxl.out; omega) (by have := hxl.out; have := hyl.out; omega) he.out Hd.out, _, rfl⟩
          case measure => simp [intOf] <;> omega
        · have hd1 : (rd xs k != rd ys k) = true := by simp [hd]
          have hfin := Lib.hid (show decide (val xs < val ys) = decide (rd xs k < rd ys k) by
            have h1 := hxl.out
            have h2 := hyl.out
            rcases Int.lt_or_gt_of_ne hd with h | h
            · have := less_at dx dy k (by omega) (by omega) he.out (by rwa [← rd_getD, ← rd_getD])
              simp [this, h]
            · have := less_at dy dx k (by omega) (by omega) he.out.symm (by rwa [← rd_getD, ← rd_getD])
              simp; omega)
          go_wp2
          go_quiet (fail)
          go_wp2
          go_quiet (fail)
          go_wp2
          go_ret
          exact ⟨by rw [hfin.out]; rfl, _, by rw [World.drewN_drewN, World.drewN_drewN]⟩
  · have hne' : ((n : Int) != (m : Int)) = true := by simp; omega
    have hfin := Lib.hid (show decide (val xs < val ys) = decide (n < m) by
      have h1 := hxl.out
      have h2 := hyl.out
      rcases Nat.lt_or_gt_of_ne hne with h | h
      · have := less_len dx dy cy (by omega)
        simp [this, h]
      · have := less_len dy dx cx (by omega)
        simp; omega)
    go_enter Try.func39, Try.ntmps39
    go_wp2
    go_ret
    exact ⟨by rw [hfin.out]; simp, 0, rfl⟩
end Go.Proofs.Ytmipifokpogpbaa.R1
