import Derived.Test.YtegkclehijdbiaaVE
import Derived.Test.YtegkclehijdbiaaWEqStruct
set_option linter.unusedSimpArgs false
set_option linter.unusedVariables false
namespace Go.Proofs.Ytegkclehijdbiaa.VF
open Go.RowKit Go.Proofs.YtegkclehijdbiaaW.PrintWords Go.Proofs.YtegkclehijdbiaaW.PrintLast Go.Proofs.Ytegkclehijdbiaa.V1 Go.Proofs.Ytegkclehijdbiaa.V2 Go.Proofs.Ytegkclehijdbiaa.V3 Go.Proofs.Ytegkclehijdbiaa.VD

/-- Two values are alike, told by their parts. -/
def eq6 (k k' n n' : Int) (s s' : ByteArray) : Bool := k == k' && (n == n' && s.toList == s'.toList)
theorem eqA56 (d : Nat) (w : World) (x0 y0 : Int) (x1 y1 : Int) (x2 y2 : ByteArray) :
    (Op.equalIn (d + 2) 56 (.agg #[.int .i64 x0, .int .i64 x1, .string x2]) (.agg #[.int .i64 y0, .int .i64 y1, .string y2])).run Try.prog w = .ok (eq6 x0 y0 x1 y1 x2 y2) w := by
  refine eqA_of Try.underlying56 (by kernel_rfl) ?_
  refine eqf_cons (by rfl) (by go_simp; rfl) (by go_simp; rfl) (by go_simp) ?_
  refine eqf_cons (by rfl) (by go_simp; rfl) (by go_simp; rfl) (by go_simp) ?_
  exact eqf_last (by rfl) (by go_simp; rfl) (by go_simp; rfl) (by go_simp)
def eqV (a b : Vl) : Bool := eq6 a.k b.k a.n b.n a.s b.s
theorem eqV_refl (a : Vl) : eqV a a = true := by simp [eqV, eq6]
theorem eqV_iff {a b : Vl} : eqV a b = true ↔ a = b := by
  constructor
  · intro h
    simp only [eqV, eq6, Bool.and_eq_true, beq_iff_eq] at h
    obtain ⟨h1, h2, h3⟩ := h
    rw [ByteArray.toList_eq, ByteArray.toList_eq] at h3
    have h4 : a.s = b.s := by
      have : a.s.data = b.s.data := Array.toList_inj.1 h3
      cases ha : a.s; cases hb : b.s; rw [ha, hb] at this; simpa using this
    cases a; cases b; simp_all
  · rintro rfl; exact eqV_refl a
def eqVs (l m : List Vl) : Nat → Bool
  | 0 => true
  | k + 1 => eqVs l m k && eqV (el l k) (el m k)
theorem eqVs_no {l m : List Vl} {k : Nat} (h : eqV (el l k) (el m k) = false) : ∀ {n : Nat}, k < n → eqVs l m n = false
  | n + 1, hk => by
    by_cases e : k = n
    · subst e; simp [eqVs, h]
    · simp [eqVs, eqVs_no h (n := n) (by omega)]
def sameV (l m : List Vl) : Bool := (l.length == m.length) && eqVs l m l.length
theorem eqVs_refl (l : List Vl) : ∀ n, eqVs l l n = true
  | 0 => rfl
  | n + 1 => by simp [eqVs, eqVs_refl l n, eqV_refl]
theorem sameV_refl (l : List Vl) : sameV l l = true := by simp [sameV, eqVs_refl]
def eqRs (l m : List (List Vl)) : Nat → Bool
  | 0 => true
  | k + 1 => eqRs l m k && sameV (el l k) (el m k)
theorem eqRs_no {l m : List (List Vl)} {k : Nat} (h : sameV (el l k) (el m k) = false) : ∀ {n : Nat}, k < n → eqRs l m n = false
  | n + 1, hk => by
    by_cases e : k = n
    · subst e; simp [eqRs, h]
    · simp [eqRs, eqRs_no h (n := n) (by omega)]
def sameR (l m : List (List Vl)) : Bool := (l.length == m.length) && eqRs l m l.length
theorem eqRs_refl (l : List (List Vl)) : ∀ n, eqRs l l n = true
  | 0 => rfl
  | n + 1 => by simp [eqRs, eqRs_refl l n, sameV_refl]
theorem sameR_refl (l : List (List Vl)) : sameR l l = true := by simp [sameR, eqRs_refl]
def sameB (a b : Bt) : Bool := (a.id == b.id) && sameR a.rows b.rows
theorem sameB_refl (a : Bt) : sameB a a = true := by simp [sameB, sameR_refl]
/-- A Bool is told, and only answers were drawn. -/
def Dr (w : World) (b : Bool) (e : Ending) (w' : World) : Prop := e = .returned (.bool b) ∧ ∃ q, w' = w.drewN q
attribute [local go_sem high] eqA56
theorem drewN_drewN (w : World) (a b : Nat) : (w.drewN a).drewN b = w.drewN (a + b) := by
  simp [World.drewN, Nat.add_assoc]
set_option maxHeartbeats 1000000 in
/-- The reference's Same, of values. -/
theorem same84 (A B : Option Addr) (n c m d : Nat) (l p : List Vl) (w : World) (hl : RdV w A n l) (hp : RdV w B m p) : Calls Try.prog 84 #[.slice A n c, .slice B m d] w (Dr w (sameV l p)) := by
  have hn := hl.2.1
  have hm := hp.2.1
  have hll := hl.1
  have hlp := hp.1
  have hv := Lib.hid (show sameV l p = ((l.length == p.length) && eqVs l p l.length) from rfl)
  rw [hll, hlp] at hv
  have hll := Lib.hid hll
  have hlp := Lib.hid hlp
  generalize sameV l p = R at *
  by_cases hnm : n = m
  · subst hnm
    go_enter Try.func84, Try.ntmps84
    go_wp2
    go_loopw [5] (fun i wr => ∃ k : Nat, i = .int .i64 k ∧ k ≤ n ∧ Hid (eqVs l p k = true) ∧ ∃ q, wr = w.drewN q) (fun i _ => n - (intOf i).toNat)
    case atStart => exact ⟨0, rfl, by omega, rfl, 0, rfl⟩
    case round =>
      obtain ⟨k, rfl, hk, hok, q, rfl⟩ := hrel
      by_cases hlt : k < n
      · obtain ⟨g, o, rfl, ⟨c0, c1, c2, hf⟩, q2⟩ := hl.at_ hlt
        obtain ⟨g', o', rfl, ⟨d0, d1, d2, hf'⟩, q2'⟩ := hp.at_ hlt
        have q0 : (0 : Int) ≤ (k : Int) := by omega
        have q1 : (k : Int) < (n : Int) := by omega
        go_upto_region 6 with fail
        go_quiet (fail)
        generalize hb : eq6 (el l k).k (el p k).k (el l k).n (el p k).n (el l k).s (el p k).s = b
        have he : eqV (el l k) (el p k) = b := hb
        clear hb
        cases b with
        | true =>
          have hok2 : Hid (eqVs l p (k + 1) = true) := by show _ = _; simp only [eqVs, hok.out, he, Bool.and_self]
          go_wp2
          go_roundw
          case rel => exact ⟨k + 1, by go_num, by omega, hok2, _, rfl⟩
          case measure => simp [intOf] <;> omega
        | false =>
          have hF : Hid (R = false) := by show _ = _; rw [hv.out, eqVs_no he hlt]; simp
          go_wp2
          go_ret
          exact ⟨by rw [hF.out]; rfl, _, drewN_drewN w q _⟩
      · obtain rfl : k = n := by omega
        have hF : Hid (R = true) := by show _ = _; rw [hv.out, hok.out]; simp
        go_wp2
        go_ret
        exact ⟨by rw [hF.out]; rfl, q, rfl⟩
  · have hF : Hid (R = false) := by show _ = _; rw [hv.out, show (n == m) = false by simpa using hnm]; simp
    go_enter Try.func84, Try.ntmps84
    go_wp2
    go_ret
    exact ⟨by rw [hF.out]; rfl, 0, rfl⟩
set_option maxHeartbeats 1000000 in
/-- slices.Equal, of values. -/
theorem same70 (A B : Option Addr) (n c m d : Nat) (l p : List Vl) (w : World) (hl : RdV w A n l) (hp : RdV w B m p) : Calls Try.prog 70 #[.slice A n c, .slice B m d] w (Dr w (sameV l p)) := by
  have hn := hl.2.1
  have hm := hp.2.1
  have hll := hl.1
  have hlp := hp.1
  have hv := Lib.hid (show sameV l p = ((l.length == p.length) && eqVs l p l.length) from rfl)
  rw [hll, hlp] at hv
  have hll := Lib.hid hll
  have hlp := Lib.hid hlp
  generalize sameV l p = R at *
  by_cases hnm : n = m
  · subst hnm
    go_enter Try.func70, Try.ntmps70
    go_wp2
    go_loopw [13] (fun i wr => ∃ k : Nat, i = .int .i64 k ∧ k ≤ n ∧ Hid (eqVs l p k = true) ∧ ∃ q, wr = w.drewN q) (fun i _ => n - (intOf i).toNat)
    case atStart => exact ⟨0, rfl, by omega, rfl, 0, rfl⟩
    case round =>
      obtain ⟨k, rfl, hk, hok, q, rfl⟩ := hrel
      by_cases hlt : k < n
      · obtain ⟨g, o, rfl, ⟨c0, c1, c2, hf⟩, q2⟩ := hl.at_ hlt
        obtain ⟨g', o', rfl, ⟨d0, d1, d2, hf'⟩, q2'⟩ := hp.at_ hlt
        have q0 : (0 : Int) ≤ (k : Int) := by omega
        have q1 : (k : Int) < (n : Int) := by omega
        go_upto_region 6 with fail
        go_quiet (fail)
        generalize hb : eq6 (el l k).k (el p k).k (el l k).n (el p k).n (el l k).s (el p k).s = b
        have he : eqV (el l k) (el p k) = b := hb
        clear hb
        cases b with
        | true =>
          have hok2 : Hid (eqVs l p (k + 1) = true) := by show _ = _; simp only [eqVs, hok.out, he, Bool.and_self]
          go_wp2
          go_roundw
          case rel => exact ⟨k + 1, by go_num, by omega, hok2, _, rfl⟩
          case measure => simp [intOf] <;> omega
        | false =>
          have hF : Hid (R = false) := by show _ = _; rw [hv.out, eqVs_no he hlt]; simp
          go_wp2
          go_ret
          exact ⟨by rw [hF.out]; rfl, _, drewN_drewN w q _⟩
      · obtain rfl : k = n := by omega
        have hF : Hid (R = true) := by show _ = _; rw [hv.out, hok.out]; simp
        go_wp2
        go_ret
        exact ⟨by rw [hF.out]; rfl, q, rfl⟩
  · have hF : Hid (R = false) := by show _ = _; rw [hv.out, show (n == m) = false by simpa using hnm]; simp
    go_enter Try.func70, Try.ntmps70
    go_wp2
    go_ret
    exact ⟨by rw [hF.out]; rfl, 0, rfl⟩
set_option maxHeartbeats 400000 in
theorem same69 (A B : Option Addr) (n c m d : Nat) (l p : List Vl) (w : World) (hl : RdV w A n l) (hp : RdV w B m p) : Calls Try.prog 69 #[.slice A n c, .slice B m d] w (Dr w (sameV l p)) := by
  go_enter Try.func69, Try.ntmps69
  go_wp2_with fail
  (with_reducible refine (same70 A B n c m d l p _ hl hp).mono ?_)
  rintro e w1 ⟨rfl, q, rfl⟩
  go_wp2
  go_ret
  exact ⟨rfl, q, rfl⟩
theorem rdV_drewN {w : World} {A : Option Addr} {n : Nat} {l : List Vl} (h : RdV w A n l) (q : Nat) : RdV (w.drewN q) A n l := rdV_below h (pw_below_drewN (Below.refl _ _) q)
theorem rdR_drewN {w : World} {A : Option Addr} {n : Nat} {l : List (List Vl)} (h : RdR w A n l) (q : Nat) : RdR (w.drewN q) A n l := rdR_below h (pw_below_drewN (Below.refl _ _) q)
set_option maxHeartbeats 1000000 in
/-- slices.EqualFunc, of rows. -/
theorem same68 (A B : Option Addr) (n c m d : Nat) (l p : List (List Vl)) (w : World) (hl : RdR w A n l) (hp : RdR w B m p) : Calls Try.prog 68 #[.slice A n c, .slice B m d, .func (.func 69) #[] #[]] w (Dr w (sameR l p)) := by
  have hn := hl.2.1
  have hm := hp.2.1
  have hll := hl.1
  have hlp := hp.1
  have hv := Lib.hid (show sameR l p = ((l.length == p.length) && eqRs l p l.length) from rfl)
  rw [hll, hlp] at hv
  have hll := Lib.hid hll
  have hlp := Lib.hid hlp
  generalize sameR l p = R at *
  by_cases hnm : n = m
  · subst hnm
    go_enter Try.func68, Try.ntmps68
    go_wp2
    go_loopw [17] (fun i wr => ∃ k : Nat, i = .int .i64 k ∧ k ≤ n ∧ Hid (eqRs l p k = true) ∧ ∃ q, wr = w.drewN q) (fun i _ => n - (intOf i).toNat)
    case atStart => exact ⟨0, rfl, by omega, rfl, 0, rfl⟩
    case round =>
      obtain ⟨k, rfl, hk, hok, q, rfl⟩ := hrel
      by_cases hlt : k < n
      · obtain ⟨g, o, rfl, ⟨A1, n1, c1, y0, hr1, z1, z2⟩, q2⟩ := hl.at_ hlt
        obtain ⟨g', o', rfl, ⟨A2, n2, c2, y1, hr2, z3, z4⟩, q2'⟩ := hp.at_ hlt
        rw [Nat.mul_one] at q2 y0 q2' y1
        have q0 : (0 : Int) ≤ (k : Int) := by omega
        have q1 : (k : Int) < (n : Int) := by omega
        go_wp2_with fail
        (with_reducible refine (same69 A1 A2 n1 c1 n2 c2 (el l k) (el p k) _ (rdV_drewN hr1 q) (rdV_drewN hr2 q)).mono ?_)
        rintro e w1 ⟨rfl, q', rfl⟩
        generalize hb : sameV (el l k) (el p k) = b0 at *
        cases b0 with
        | true =>
          have hok2 : Hid (eqRs l p (k + 1) = true) := by show _ = _; simp only [eqRs, hok.out, hb, Bool.and_self]
          clear hb
          go_wp2
          go_roundw
          case rel => exact ⟨k + 1, by go_num, by omega, hok2, q + q', rfl⟩
          case measure => simp [intOf] <;> omega
        | false =>
          have hF : Hid (R = false) := by show _ = _; rw [hv.out, eqRs_no hb hlt]; simp
          clear hb
          go_wp2
          go_ret
          exact ⟨by rw [hF.out]; rfl, q + q', rfl⟩
      · obtain rfl : k = n := by omega
        have hF : Hid (R = true) := by show _ = _; rw [hv.out, hok.out]; simp
        go_wp2
        go_ret
        exact ⟨by rw [hF.out]; rfl, q, rfl⟩
  · have hF : Hid (R = false) := by show _ = _; rw [hv.out, show (n == m) = false by simpa using hnm]; simp
    go_enter Try.func68, Try.ntmps68
    go_wp2
    go_ret
    exact ⟨by rw [hF.out]; rfl, 0, rfl⟩
set_option maxHeartbeats 1000000 in
/-- The reference's Same, of rows. -/
theorem same49 (A B : Option Addr) (n c m d : Nat) (l p : List (List Vl)) (w : World) (hl : RdR w A n l) (hp : RdR w B m p) : Calls Try.prog 49 #[.slice A n c, .slice B m d] w (Dr w (sameR l p)) := by
  have hn := hl.2.1
  have hm := hp.2.1
  have hll := hl.1
  have hlp := hp.1
  have hv := Lib.hid (show sameR l p = ((l.length == p.length) && eqRs l p l.length) from rfl)
  rw [hll, hlp] at hv
  have hll := Lib.hid hll
  have hlp := Lib.hid hlp
  generalize sameR l p = R at *
  by_cases hnm : n = m
  · subst hnm
    go_enter Try.func49, Try.ntmps49
    go_wp2
    go_loopw [5] (fun i wr => ∃ k : Nat, i = .int .i64 k ∧ k ≤ n ∧ Hid (eqRs l p k = true) ∧ ∃ q, wr = w.drewN q) (fun i _ => n - (intOf i).toNat)
    case atStart => exact ⟨0, rfl, by omega, rfl, 0, rfl⟩
    case round =>
      obtain ⟨k, rfl, hk, hok, q, rfl⟩ := hrel
      by_cases hlt : k < n
      · obtain ⟨g, o, rfl, ⟨A1, n1, c1, y0, hr1, z1, z2⟩, q2⟩ := hl.at_ hlt
        obtain ⟨g', o', rfl, ⟨A2, n2, c2, y1, hr2, z3, z4⟩, q2'⟩ := hp.at_ hlt
        rw [Nat.mul_one] at q2 y0 q2' y1
        have q0 : (0 : Int) ≤ (k : Int) := by omega
        have q1 : (k : Int) < (n : Int) := by omega
        go_upto_region 6 with fail
        have y0 : (w.drewN q).cell? ⟨g, o + k, none⟩ = some (.slice A1 n1 c1) := y0
        have y1 : (w.drewN q).cell? ⟨g', o' + k, none⟩ = some (.slice A2 n2 c2) := y1
        have hr1 := rdV_drewN hr1 q
        have hr2 := rdV_drewN hr2 q
        generalize hX : w.drewN q = X at y0 y1 hr1 hr2 ⊢
        have hX := Lib.hid hX
        generalize hb : sameV (el l k) (el p k) = b0 at *
        have hcall : ∀ (x : World), RdV x A1 n1 (el l k) → RdV x A2 n2 (el p k) → Calls Try.prog 84 #[.slice A1 n1 c1, .slice A2 n2 c2] x fun e w' => e = .returned (.bool b0) ∧ ∃ q, w' = x.drewN q := by
          intro x h1 h2
          rw [← hb]
          exact (same84 A1 A2 n1 c1 n2 c2 (el l k) (el p k) x h1 h2)
        go_quiet ((go_at_call 84; exact Calls.quiet_of (hcall _ (rdV_drewN hr1 _) (rdV_drewN hr2 _))))
        skip
        cases b0 with
        | true =>
          have hok2 : Hid (eqRs l p (k + 1) = true) := by show _ = _; simp only [eqRs, hok.out, hb, Bool.and_self]
          clear hb
          go_wp2
          go_roundw
          case rel => exact ⟨k + 1, by go_num, by omega, hok2, _, by rw [← hX.out]; exact drewN_drewN w q _⟩
          case measure => simp [intOf] <;> omega
        | false =>
          have hF : Hid (R = false) := by show _ = _; rw [hv.out, eqRs_no hb hlt]; simp
          clear hb
          go_wp2
          go_ret
          exact ⟨by rw [hF.out]; rfl, _, by rw [← hX.out]; exact drewN_drewN w q _⟩
      · obtain rfl : k = n := by omega
        have hF : Hid (R = true) := by show _ = _; rw [hv.out, hok.out]; simp
        go_wp2
        go_ret
        exact ⟨by rw [hF.out]; rfl, q, rfl⟩
  · have hF : Hid (R = false) := by show _ = _; rw [hv.out, show (n == m) = false by simpa using hnm]; simp
    go_enter Try.func49, Try.ntmps49
    go_wp2
    go_ret
    exact ⟨by rw [hF.out]; rfl, 0, rfl⟩
set_option maxHeartbeats 1000000 in
/-- stream.Same. -/
theorem same23 (a b : Int) (A B : Option Addr) (n c m d : Nat) (l p : List (List Vl)) (w : World) (hl : RdR w A n l) (hp : RdR w B m p) : Calls Try.prog 23 #[.agg #[.int .i64 a, .slice A n c], .agg #[.int .i64 b, .slice B m d]] w fun e w' => e = .returned (.bool (sameB ⟨a, l⟩ ⟨b, p⟩)) ∧ Below w.heap.size w w' := by
  have P0 : Below w.heap.size w ((w.alloc (.cells #[.int .i64 a, .slice A n c] 38)).alloc (.cells #[.int .i64 b, .slice B m d] 38)) := by go_grown
  have hl := rdR_below hl P0
  have hp := rdR_below hp P0
  have hv := Lib.hid (show sameB ⟨a, l⟩ ⟨b, p⟩ = ((a == b) && sameR l p) from rfl)
  generalize sameB ⟨a, l⟩ ⟨b, p⟩ = R at *
  by_cases hab : a = b
  · subst hab
    have hv : Hid (R = sameR l p) := by show _ = _; rw [hv.out]; simp
    go_enter Try.func23, Try.ntmps23
    go_wp2_with fail
    (with_reducible refine (same68 A B n c m d l p _ hl hp).mono ?_)
    rintro e w1 ⟨rfl, q, rfl⟩
    obtain rfl : R = sameR l p := hv.out
    go_wp2
    go_ret
    exact ⟨rfl, pw_below_drewN P0 _⟩
  · have hF : Hid (R = false) := by show _ = _; rw [hv.out, show (a == b) = false by simpa using hab]; rfl
    have hab2 : (a == b) = false := by simpa using hab
    go_enter Try.func23, Try.ntmps23
    go_wp2
    go_ret
    exact ⟨by rw [hF.out]; rfl, P0⟩
set_option maxHeartbeats 1000000 in
/-- The law's same. -/
theorem same24 (a b : Int) (A B : Option Addr) (n c m d : Nat) (l p : List (List Vl)) (w : World) (hl : RdR w A n l) (hp : RdR w B m p) : Calls Try.prog 24 #[.agg #[.int .i64 a, .slice A n c], .agg #[.int .i64 b, .slice B m d]] w fun e w' => e = .returned (.bool (sameB ⟨a, l⟩ ⟨b, p⟩)) ∧ Below w.heap.size w w' := by
  have P0 : Below w.heap.size w ((w.alloc (.cells #[.int .i64 a, .slice A n c] 38)).alloc (.cells #[.int .i64 b, .slice B m d] 38)) := by go_grown
  have hl := rdR_below hl P0
  have hp := rdR_below hp P0
  have hv := Lib.hid (show sameB ⟨a, l⟩ ⟨b, p⟩ = ((a == b) && sameR l p) from rfl)
  generalize sameB ⟨a, l⟩ ⟨b, p⟩ = R at *
  by_cases hab : a = b
  · subst hab
    have hv : Hid (R = sameR l p) := by show _ = _; rw [hv.out]; simp
    go_enter Try.func24, Try.ntmps24
    go_wp2_with fail
    (with_reducible refine (same49 A B n c m d l p _ hl hp).mono ?_)
    rintro e w1 ⟨rfl, q, rfl⟩
    obtain rfl : R = sameR l p := hv.out
    go_wp2
    go_ret
    exact ⟨rfl, pw_below_drewN P0 _⟩
  · have hF : Hid (R = false) := by show _ = _; rw [hv.out, show (a == b) = false by simpa using hab]; rfl
    have hab2 : (a == b) = false := by simpa using hab
    go_enter Try.func24, Try.ntmps24
    go_wp2
    go_ret
    exact ⟨by rw [hF.out]; rfl, P0⟩
end Go.Proofs.Ytegkclehijdbiaa.VF
