import Derived.Test.YtchjlcchggeonaaPL
import Derived.Test.YtchjlcchggeonaaPLexx17
set_option linter.unusedVariables false
set_option linter.unusedSimpArgs false
namespace Go.Proofs.Ytchjlcchggeonaa.PM
open Go.RowKit Go.Proofs.Ytchjlcchggeonaa.PLex Go.Proofs.Ytchjlcchggeonaa.PL Go.Proofs.YtchjlcchggeonaaW.PrintLast
open Go.Proofs.YtchjlcchggeonaaW.PrintWords hiding Ev

theorem l1_note {x0 : ByteArray} {W : List S28} {x8 x9 : Int} {R : Bool} : ∀ (u p v : List UInt8), x0 = S (p ++ (u ++ v)) → (∀ c ∈ u, c ≠ 10) → ((p.length + u.length : Nat) : Int) ≤ x9 → p.length + (u ++ v).length ≤ 1000000 →
    Ev (fun k => affluxlaw11_LexStands.l1 k x0 W ((p.length + u.length : Nat) : Int) true x8 x9) R → Ev (fun k => affluxlaw11_LexStands.l1 k x0 W (p.length : Int) true x8 x9) R
  | [], p, v, e, h, h9, hl, hR => by simpa using hR
  | c :: u, p, v, e, h, h9, hl, hR => by
    simp at hl h9
    have ih := l1_note (x0 := x0) (W := W) (x8 := x8) (x9 := x9) (R := R) u (p ++ [c]) v (by rw [e]; simp) (fun x hx => h x (by simp [hx])) (by simp; omega) (by simp; omega) (by
      rw [show (p ++ [c]).length + u.length = p.length + (c :: u).length by simp; omega]; exact hR)
    refine Ev.succ (fun k => ?_) ih
    rw [affluxlaw11_LexStands.l1, if_pos (by omega), if_pos (by omega), if_pos (by rw [e, S_size]; simp; omega)]
    rw [e, List.cons_append, bt_mid, if_neg (e10 c (h c (by simp))), if_pos rfl, wrap_in (by omega) (by omega)]
    simp
theorem bl10 {v : List UInt8} {n : Nat} (h : Bl (10 :: v) n) : ∃ n', n = n' + 1 ∧ Bl v n' := by
  generalize e : (10 : UInt8) :: v = l at h
  cases h with
  | nil => cases e
  | b c t n hb h => injection e with e1 e2; subst e2; exact ⟨n, rfl, h⟩
  | rem u v' n hu hp2 hb => obtain ⟨t, rfl⟩ := pre2 hp2; cases e
  | remEnd u hu hp2 => obtain ⟨t, rfl⟩ := pre2 hp2; cases e
  | stop c t hb hp2 => injection e with e1 e2; subst e1; cases hb
theorem scan {l : List UInt8} {b : Nat} (h : Bl l b) : ∀ {x0 : ByteArray} {W : List S28} {x8 x9 : Int} (p : List UInt8), x0 = S (p ++ l) → x9 = ((p.length + b : Nat) : Int) → p.length + l.length ≤ 1000000 →
    (∀ nt : Bool, (nt = true → b = l.length) → Ev (fun k => affluxlaw11_LexStands.l1 k x0 W x9 nt x8 x9) true) → Ev (fun k => affluxlaw11_LexStands.l1 k x0 W (p.length : Int) false x8 x9) true := by
  induction h with
  | nil =>
    intro x0 W x8 x9 p e h9 hl hR
    have := hR false (by simp)
    rw [h9] at this ⊢
    simpa using this
  | b c t n hb _ ih =>
    intro x0 W x8 x9 p e h9 hl hR
    simp at hl
    have ih := ih (x0 := x0) (W := W) (x8 := x8) (x9 := x9) (p ++ [c]) (by rw [e]; simp) (by rw [h9]; simp; omega) (by simp; omega) (fun nt h => hR nt (fun hh => by simp [h hh]))
    refine Ev.succ (fun k => ?_) ih
    have hc : c = 32 ∨ c = 9 ∨ c = 10 := by simpa [isB, or_assoc] using hb
    rw [affluxlaw11_LexStands.l1, if_pos (by omega), if_pos (by omega), if_pos (by rw [e, S_size]; simp; omega)]
    rw [e, bt_mid, wrap_in (by omega) (by omega)]
    rcases hc with rfl | rfl | rfl <;> simp
  | rem u v n hu hp2 hb ih =>
    intro x0 W x8 x9 p e h9 hl hR
    obtain ⟨t, rfl⟩ := pre2 hp2
    have hble := hb.le
    simp at hl hble
    have ih2 := ih (x0 := x0) (W := W) (x8 := x8) (x9 := x9) (p ++ 47 :: 47 :: t) (by rw [e]; simp) (by rw [h9]; simp; omega) (by simp; omega) (fun nt h => hR nt (fun hh => by have := h hh; simp at this ⊢; omega))
    -- the newline itself: with a remark open it is closed
    have ihn : Ev (fun k => affluxlaw11_LexStands.l1 k x0 W ((p ++ 47 :: 47 :: t).length : Int) true x8 x9) true := by
      obtain ⟨n', rfl, _⟩ := bl10 hb
      obtain ⟨K, hK⟩ := ih2
      refine ⟨K + 1, fun k hk => ?_⟩
      rw [← hK k (by omega)]
      obtain ⟨k, rfl⟩ : ∃ m, k = m + 1 := ⟨k - 1, by omega⟩
      have hb10 : bt x0 ((p ++ 47 :: 47 :: t).length : Int) = 10 := by
        rw [e, ← List.append_assoc, bt_mid]; rfl
      show affluxlaw11_LexStands.l1 (k + 1) _ _ _ _ _ _ = affluxlaw11_LexStands.l1 (k + 1) _ _ _ _ _ _
      rw [affluxlaw11_LexStands.l1, affluxlaw11_LexStands.l1, hb10, if_pos rfl]
      have hlt : ((p ++ 47 :: 47 :: t).length : Int) < x9 := by rw [h9]; simp; omega
      simp only [if_pos hlt, if_true]
    have h2 := l1_note (x0 := x0) (W := W) (x8 := x8) (x9 := x9) (R := true) (47 :: t) (p ++ [47]) (10 :: v) (by rw [e]; simp) (fun x hx => hu x (by simp at hx ⊢; exact hx)) (by rw [h9]; simp; omega) (by simp; omega) (by
      have e5 : (p ++ [47]).length + (47 :: t).length = (p ++ 47 :: 47 :: t).length := by simp; omega
      rw [e5]; exact ihn)
    refine Ev.succ (fun k => ?_) h2
    rw [affluxlaw11_LexStands.l1, if_pos (by rw [h9]; simp; omega), if_pos (by omega), if_pos (by rw [e, S_size]; simp; omega)]
    rw [e, List.cons_append, bt_mid, wrap_in (by omega) (by omega)]
    simp
  | remEnd u hu hp2 =>
    intro x0 W x8 x9 p e h9 hl hR
    obtain ⟨t, rfl⟩ := pre2 hp2
    simp at hl
    have h2 := l1_note (x0 := x0) (W := W) (x8 := x8) (x9 := x9) (R := true) (47 :: t) (p ++ [47]) [] (by rw [e]; simp) (fun x hx => hu x (by simp at hx ⊢; exact hx)) (by rw [h9]; simp; omega) (by simp; omega) (by
      have := hR true (fun _ => rfl)
      have e5 : (p ++ [47]).length + (47 :: t).length = p.length + (47 :: 47 :: t).length := by simp; omega
      rw [e5, ← h9]
      exact this)
    refine Ev.succ (fun k => ?_) h2
    rw [affluxlaw11_LexStands.l1, if_pos (by rw [h9]; simp; omega), if_pos (by omega), if_pos (by rw [e, S_size]; simp; omega)]
    rw [e, bt_mid, wrap_in (by omega) (by omega)]
    simp
  | stop c t hb hp2 =>
    intro x0 W x8 x9 p e h9 hl hR
    have := hR false (by simp)
    rw [h9] at this ⊢
    simpa using this
/-- The signs in a text are counted. -/
theorem l2_count {x0 : ByteArray} {W : List S28} {x6 x8 : Int} {x7 : Bool} {txt : List UInt8} (h0 : 0 ≤ x8) (h8 : x8 < (W.length : Int)) (ht : (rd_T28 W x8).f1 = S txt) (hs : txt.length ≤ 1000000) : ∀ (r d : List UInt8) (n : Nat), txt = d ++ r → n ≤ 3000000 + 2 * d.length →
    Ev (fun k => affluxlaw11_LexStands.l0 k x0 W (wrap64 (x6 + ((n + (r.filter (· == 39)).length : Nat) : Int))) x7 (wrap64 (x8 + 1))) true → Ev (fun k => affluxlaw11_LexStands.l2 k x0 W x6 x7 x8 (n : Int) (d.length : Int)) true
  | [], d, n, e, hn, hR => by
    refine Ev.succ (fun k => ?_) hR
    rw [affluxlaw11_LexStands.l2, if_pos h0, if_pos h8, ht, S_size, if_neg (by rw [e]; simp)]
    simp
  | c :: r, d, n, e, hn, hR => by
    have hl : txt.length = d.length + (r.length + 1) := by rw [e]; simp
    have hb : bt (S txt) (d.length : Int) = (c.toNat : Int) := by rw [e]; exact bt_mid d r c
    by_cases hc : c = 39
    · subst hc
      have ih := l2_count h0 h8 ht hs r (d ++ [39]) (n + 1) (by rw [e]; simp) (by simp; omega) (by simpa [Nat.add_assoc, Nat.add_comm] using hR)
      refine Ev.succ (fun k => ?_) ih
      rw [affluxlaw11_LexStands.l2, if_pos h0, if_pos h8, ht, S_size, if_pos (by omega), if_pos (by omega), hb, if_pos (by decide), wrap_in (by omega) (by omega), wrap_in (by omega) (by omega)]
      simp
    · have ih := l2_count h0 h8 ht hs r (d ++ [c]) n (by rw [e]; simp) (by simp; omega) (by
        have : (c :: r).filter (· == 39) = r.filter (· == 39) := by simp [hc]
        rw [this] at hR; exact hR)
      refine Ev.succ (fun k => ?_) ih
      rw [affluxlaw11_LexStands.l2, if_pos h0, if_pos h8, ht, S_size, if_pos (by omega), if_pos (by omega), hb, if_neg (e39 c hc), wrap_in (by omega) (by omega)]
      simp
theorem rd_mid (pre ws : List S28) (x : S28) : rd_T28 (pre ++ x :: ws) (pre.length : Int) = x := by
  unfold rd_T28
  rw [Int.toNat_natCast]; simp [List.getD]
theorem cut_mid (p l : List UInt8) (b m : Nat) : ((p ++ l).take (p.length + b + m)).drop (p.length + b) = (l.drop b).take m := by
  rw [List.drop_take, List.drop_append, show p.length + b + m - (p.length + b) = m by omega, show p.length + b - p.length = b by omega, List.drop_of_length_le (by omega), List.nil_append]
theorem awake_t : affluxlaw11_awake.f = some true := rfl
theorem stands {ws : List S28} : ∀ (n : Nat) (pre : List S28) (l p : List UInt8) (b : Nat), ws.length = n → p.length + l.length ≤ 1000000 → pre.length ≤ p.length → Bl l b → Ws (p.length + b) (l.drop b) ws →
    Ev (fun k => affluxlaw11_LexStands.l0 k (S (p ++ l)) (pre ++ ws) (p.length : Int) false (pre.length : Int)) true := by
  induction ws with
  | nil =>
    intro n pre l p b hn hl hpre hb hw
    have hble := hb.le
    have hbe : b = l.length := by
      generalize hd : l.drop b = d at hw
      cases hw
      have := congrArg List.length hd
      simp at this; omega
    have key : Ev (fun k => affluxlaw11_LexStands.l1 k (S (p ++ l)) (pre ++ []) (p.length : Int) false (pre.length : Int) ((p.length + b : Nat) : Int)) true := by
      refine scan hb p rfl rfl hl (fun nt hnt => ?_)
      have fin : Ev (fun k => affluxlaw11_LexStands.j4 k (S (p ++ l)) (pre ++ []) ((p.length + b : Nat) : Int) nt (pre.length : Int) true) true := by
        refine Ev.succ (g := fun _ => some true) (fun k => ?_) (Ev.always fun k => rfl)
        rw [affluxlaw11_LexStands.j4, if_pos rfl, if_pos (by simp), awake_t]; rfl
      refine Ev.succ (fun k => ?_) fin
      have e8 : ((pre.length : Int) == ((pre ++ []).length : Int)) = true := by simp
      rw [affluxlaw11_LexStands.l1, if_neg (by omega), e8]
      cases nt
      · rw [if_neg (by decide)]
      · rw [if_pos rfl, if_neg (by simp)]
    have k2 : Ev (fun k => affluxlaw11_LexStands.j2 k (S (p ++ l)) (pre ++ []) (p.length : Int) false (pre.length : Int) ((p.length + b : Nat) : Int) false) true := by
      refine Ev.succ (fun k => ?_) key
      rw [affluxlaw11_LexStands.j2, if_neg (by decide)]
    have k1 : Ev (fun k => affluxlaw11_LexStands.j1 k (S (p ++ l)) (pre ++ []) (p.length : Int) false (pre.length : Int) ((p.length + b : Nat) : Int)) true := by
      refine Ev.succ (fun k => ?_) k2
      rw [affluxlaw11_LexStands.j1, if_neg (by omega), decide_eq_false (by rw [S_size]; simp; omega)]
    refine Ev.succ (fun k => ?_) k1
    rw [affluxlaw11_LexStands.l0, if_pos (by simp), if_neg (by simp), S_size]
    rw [show ((p ++ l).length : Int) = ((p.length + b : Nat) : Int) by simp; omega]
  | cons w ws ih =>
    intro n pre l p b hn hl hpre hb hw
    have hble := hb.le
    generalize hd : l.drop b = L at hw
    cases hw with
    | cons _ _ kd N u m b' _ hLn hx hb' hw' =>
      have hp := hx.props
      have h1 := hp.ge; have h2 := hp.le
      have hLlen : L.length = l.length - b := by rw [← hd]; simp
      have hble' := hb'.le
      simp at hble'
      have hLpos := List.length_pos_iff.2 hLn
      -- the rest
      have hdrop : L.drop m = l.drop (b + m) := by rw [← hd, List.drop_drop]
      have e3 : (p ++ l.take (b + m)).length = p.length + b + m := by simp; omega
      have ih := ih (ws.length) (pre ++ [⟨kd, S u, N, ((p.length + b : Nat) : Int)⟩]) (l.drop (b + m)) (p ++ l.take (b + m)) b' rfl (by simp; omega) (by simp; omega) (by rw [← hdrop]; exact hb') (by
        rw [e3, List.drop_drop]
        rw [← hd, List.drop_drop] at hw'
        rw [show b + m + b' = b + (m + b') by omega]; exact hw')
      rw [List.append_assoc, List.take_append_drop, e3, List.append_assoc] at ih
      simp only [List.singleton_append, List.length_append, List.length_singleton] at ih
      generalize hWd : pre ++ (⟨kd, S u, N, ((p.length + b : Nat) : Int)⟩ : S28) :: ws = W at *
      have hWl : W.length = pre.length + (ws.length + 1) := by rw [← hWd]; simp
      have hrd : rd_T28 W (pre.length : Int) = ⟨kd, S u, N, ((p.length + b : Nat) : Int)⟩ := by rw [← hWd]; exact rd_mid _ _ _
      have hbt : 0 ≤ (p.length : Int) + b := by omega
      -- the word itself
      have word : Ev (fun k => affluxlaw11_LexStands.j4 k (S (p ++ l)) W ((p.length + b : Nat) : Int) false (pre.length : Int) false) true := by
        by_cases hk2 : kd = 2
        · have hm := hp.text hk2
          have hc := l2_count (x0 := S (p ++ l)) (W := W) (x6 := ((p.length + b : Nat) : Int)) (x8 := (pre.length : Int)) (x7 := false) (txt := u) (by omega) (by omega) (by rw [hrd]) (by omega) u [] (u.length + 2) rfl (by simp; omega) (by
            rw [wrap_in (by omega) (by omega), wrap_in (by omega) (by omega)]
            have e4 : ((p.length + b : Nat) : Int) + ((u.length + 2 + (u.filter (· == 39)).length : Nat) : Int) = ((p.length + b + m : Nat) : Int) := by rw [hm]; omega
            rw [e4]
            exact_mod_cast ih)
          refine Ev.succ (fun k => ?_) hc
          rw [affluxlaw11_LexStands.j4, if_neg (by decide), if_pos (by omega), if_pos (by omega), hrd]
          simp only [if_pos hk2, S_size]
          rw [wrap_in (by omega) (by omega)]
          rfl
        · obtain ⟨ht, hm⟩ := hp.plain hk2
          have e4 : ((p.length + b : Nat) : Int) + (u.length : Int) = ((p.length + b + m : Nat) : Int) := by rw [hm]; omega
          have hx4 : ((S (p ++ l)).extract ((p.length + b : Nat) : Int).toNat ((p.length + b + m : Nat) : Int).toNat).toList = (S u).toList := by
            rw [S_extract, S_list, S_list, Int.toNat_natCast, Int.toNat_natCast]
            rw [← ht, ← hd, cut_mid]
          refine Ev.succ (fun k => ?_) ih
          rw [affluxlaw11_LexStands.j4, if_neg (by decide), if_pos (by omega), if_pos (by omega), hrd]
          simp only [if_neg hk2, S_size]
          rw [e4, wrap_in (by omega) (by omega), if_neg (by simp; omega), if_pos (by omega), if_pos (by omega), if_pos (by simp; omega), if_pos hx4, wrap_in (by omega) (by omega)]
          simp
      have key : Ev (fun k => affluxlaw11_LexStands.l1 k (S (p ++ l)) W (p.length : Int) false (pre.length : Int) ((p.length + b : Nat) : Int)) true := by
        refine scan hb p rfl rfl hl (fun nt hnt => ?_)
        have hf : nt = false := by
          cases nt with
          | false => rfl
          | true => have := hnt rfl; omega
        subst hf
        refine Ev.succ (fun k => ?_) word
        have e8 : ((pre.length : Int) == (W.length : Int)) = false := by simp; omega
        rw [affluxlaw11_LexStands.l1, if_neg (by omega), e8, if_neg (by decide)]
      have k2 : Ev (fun k => affluxlaw11_LexStands.j2 k (S (p ++ l)) W (p.length : Int) false (pre.length : Int) ((p.length + b : Nat) : Int) false) true := by
        refine Ev.succ (fun k => ?_) key
        rw [affluxlaw11_LexStands.j2, if_neg (by decide)]
      have k1 : Ev (fun k => affluxlaw11_LexStands.j1 k (S (p ++ l)) W (p.length : Int) false (pre.length : Int) ((p.length + b : Nat) : Int)) true := by
        refine Ev.succ (fun k => ?_) k2
        rw [affluxlaw11_LexStands.j1, if_neg (by omega), decide_eq_false (by rw [S_size]; simp; omega)]
      refine Ev.succ (fun k => ?_) k1
      rw [affluxlaw11_LexStands.l0, if_pos (by omega), if_pos (by omega), if_pos (by omega), hrd]
theorem lexStands : affluxlaw11_LexStands.Pure := by
  intro s hs
  rw [← S_eq s]
  suffices h : Ev (fun k => affluxlaw11_LexStands.f k (S s.data.toList)) true by
    obtain ⟨K, hK⟩ := h
    exact ⟨K, hK K (Nat.le_refl _)⟩
  rcases words_f s.data.toList with ⟨a, e, he, hw⟩ | ⟨hl, b, ws, hb, hws, hw⟩
  · refine PL.Ev.bind hw (PL.Ev.always fun k => ?_)
    rw [if_neg he, if_pos (by simp), awake_t]; rfl
  · refine PL.Ev.bind hw (PL.Ev.congr (fun k => ?_) (stands (ws := ws) _ [] s.data.toList [] b rfl (by rw [List.length_nil]; omega) (by simp) hb (by simpa using hws)))
    rfl
end Go.Proofs.Ytchjlcchggeonaa.PM
