import Derived.Test.YtegkclehijdbiaaPTk3
import Derived.Test.YtegkclehijdbiaaMC
import Derived.Test.YtegkclehijdbiaaPTk5
import Derived.Test.YtegkclehijdbiaaVF
set_option linter.unusedVariables false
set_option linter.unusedSimpArgs false
namespace Go.Proofs.Ytegkclehijdbiaa.PE
open Go.RowKit Go.Proofs.Ytegkclehijdbiaa.PCodecTakes Go.Proofs.YtegkclehijdbiaaW.PrintWords Go.Proofs.Ytegkclehijdbiaa.V1 Go.Proofs.Ytegkclehijdbiaa.N1 Go.Proofs.Ytegkclehijdbiaa.N2 Go.Proofs.Ytegkclehijdbiaa.N3 Go.Proofs.Ytegkclehijdbiaa.CA Go.Proofs.Ytegkclehijdbiaa.CB Go.Proofs.Ytegkclehijdbiaa.CC Go.Proofs.Ytegkclehijdbiaa.CD Go.Proofs.Ytegkclehijdbiaa.CE Go.Proofs.Ytegkclehijdbiaa.CF Go.Proofs.Ytegkclehijdbiaa.CG
open Go.Proofs.YtegkclehijdbiaaW.PrintLast hiding takeB
/-- From some number of rounds on, the answer. -/
def Ev {α : Type} (f : Nat → Option α) (r : α) : Prop := ∃ K, ∀ k, K ≤ k → f k = some r
theorem Ev.always {α : Type} {f : Nat → Option α} {r : α} (h : ∀ k, f k = some r) : Ev f r := ⟨0, fun k _ => h k⟩
theorem Ev.succ {α : Type} {f g : Nat → Option α} {r : α} (h : ∀ k, f (k + 1) = g k) (hg : Ev g r) : Ev f r := by
  obtain ⟨K, hK⟩ := hg
  refine ⟨K + 1, fun k hk => ?_⟩
  obtain ⟨m, rfl⟩ : ∃ m, k = m + 1 := ⟨k - 1, by omega⟩
  rw [h, hK m (by omega)]
theorem Ev.congr {α : Type} {f g : Nat → Option α} {r : α} (h : ∀ k, f k = g k) (hg : Ev g r) : Ev f r := by
  obtain ⟨K, hK⟩ := hg
  exact ⟨K, fun k hk => (h k).trans (hK k hk)⟩
theorem Ev.bind {α β : Type} {f : Nat → Option α} {g : Nat → α → Option β} {a : α} {r : β} (hf : Ev f a) (hg : Ev (fun k => g k a) r) : Ev (fun k => (f k).bind (g k)) r := by
  obtain ⟨K, hK⟩ := hf
  obtain ⟨L, hL⟩ := hg
  refine ⟨max K L, fun k hk => ?_⟩
  show (f k).bind (g k) = some r
  rw [hK k (by omega)]
  exact hL k (by omega)

/-- A text of bytes. -/
abbrev S (l : List UInt8) : ByteArray := ⟨l.toArray⟩
theorem S_size (l : List UInt8) : (S l).size = l.length := by simp [ByteArray.size]
theorem S_eq (s : ByteArray) : S s.data.toList = s := by cases s; simp [S]
theorem S_list (l : List UInt8) : (S l).toList = l := by rw [ByteArray.toList_eq]
theorem bt_S (l : List UInt8) (k : Nat) (h : k < l.length) : bt (S l) (k : Int) = (l[k].toNat : Int) := by
  unfold bt
  rw [dif_pos (by rw [Int.toNat_natCast, S_size]; exact h)]
  simp only [Int.toNat_natCast]
  rfl
theorem bt_mid (p t : List UInt8) (c : UInt8) : bt (S (p ++ c :: t)) (p.length : Int) = (c.toNat : Int) := by
  rw [bt_S _ _ (by simp)]; simp
theorem S_extract (l : List UInt8) (a b : Nat) : (S l).extract a b = S ((l.take b).drop a) := by
  have : ((S l).extract a b).data = (S ((l.take b).drop a)).data := by
    rw [ByteArray.data_extract]
    apply Array.ext'
    simp [List.extract_eq_take_drop, List.drop_take]
  cases h1 : (S l).extract a b; cases h2 : S ((l.take b).drop a)
  rw [h1, h2] at this; simpa using this
theorem S_drop (p l : List UInt8) : (S (p ++ l)).extract ((p.length : Nat) : Int).toNat (S (p ++ l)).size = S l := by
  rw [S_extract, S_size, Int.toNat_natCast, List.take_length]; simp
theorem S_dropL (p l : List UInt8) : (S (p ++ l)).extract ((p.length : Nat) : Int).toNat (p ++ l).length = S l := by
  have := S_drop p l
  rwa [S_size] at this
theorem S_drop' (l : List UInt8) (a : Nat) : (S l).extract ((a : Nat) : Int).toNat (S l).size = S (l.drop a) := by
  rw [S_extract, S_size, Int.toNat_natCast, List.take_length]
theorem S_take (l : List UInt8) (a : Nat) : (S l).extract 0 ((a : Nat) : Int).toNat = S (l.take a) := by
  rw [S_extract, Int.toNat_natCast, List.drop_zero]
theorem wrap_in {n : Int} (h0 : 0 ≤ n) (h1 : n ≤ 9223372036854775807) : wrap64 n = n := by unfold wrap64; omega


/-- A part of text: what is left of it, and is it bad. -/
def PS (u : List UInt8) (b : Bool) (st : Option (List UInt8)) : Prop := u.length ≤ 1000000 ∧ match st with
  | none => b = true
  | some l => b = false ∧ u = l
theorem PS.bad {u : List UInt8} {b : Bool} (h : PS u b none) : b = true := h.2
theorem PS.mk0 {u : List UInt8} (h : u.length ≤ 1000000) : PS u true none := ⟨h, rfl⟩
theorem PS.mk1 {u : List UInt8} (h : u.length ≤ 1000000) : PS u false (some u) := ⟨h, rfl, rfl⟩
theorem S_dropQ (l : List UInt8) (a : Nat) : (S l).extract ((a : Nat) : Int).toNat l.length = S (l.drop a) := by have := S_drop' l a; rwa [S_size] at this
theorem PS.le {u : List UInt8} {b : Bool} {st : Option (List UInt8)} (h : PS u b st) : u.length ≤ 1000000 := h.1
theorem PS.some_ {u : List UInt8} {b : Bool} {l : List UInt8} (h : PS u b (some l)) : b = false ∧ u = l := h.2
theorem cut_bad (u : List UInt8) (n : Int) : affluxref04_Part_cut.f (S u) true n = some (⟨#[]⟩, S u, true) := by unfold affluxref04_Part_cut.f; rw [if_pos rfl]
theorem cut_short {u : List UInt8} {n : Int} (h : (u.length : Int) < n) : affluxref04_Part_cut.f (S u) false n = some (⟨#[]⟩, S u, true) := by unfold affluxref04_Part_cut.f; rw [if_neg (by decide), S_size, if_pos h]
theorem cut_ok {u : List UInt8} {n : Nat} (h : n ≤ u.length) : affluxref04_Part_cut.f (S u) false (n : Int) = some (S (u.take n), S (u.drop n), false) := by
  unfold affluxref04_Part_cut.f
  rw [if_neg (by decide), S_size, if_neg (by omega), if_pos (by omega), if_pos (by omega), S_take, S_dropQ]
theorem cut_1 (c : UInt8) (t : List UInt8) : affluxref04_Part_cut.f (S (c :: t)) false 1 = some (S [c], S t, false) := cut_ok (u := c :: t) (n := 1) (by simp)
theorem str1 (c : UInt8) : strOfNums [(c.toNat : Int)] = S [c] := str_nums [c]
theorem S_app (a b : List UInt8) : S a ++ S b = S (a ++ b) := by
  have : (S a ++ S b).data = (S (a ++ b)).data := by
    rw [ByteArray.data_append]; simp
  cases h1 : S a ++ S b; cases h2 : S (a ++ b)
  rw [h1, h2] at this; simpa using this
theorem cat_snoc : ∀ (k n : Nat), cat (k + 1) n = cat k (n / 256) ++ [UInt8.ofNat n]
  | 0, n => by simp [cat]
  | k + 1, n => by
    rw [cat, cat_snoc k n, cat, List.cons_append, Nat.pow_succ, Nat.mul_comm, ← Nat.div_div_eq_div_mul]
theorem num_l0 : ∀ (n : Nat) (a : List UInt8), n < 18446744073709551616 → a.length ≤ 1000 → sz n + a.length ≤ 255 → Ev (fun k => affluxref04_Number.l0 k (n : Int) (S a)) (S (UInt8.ofNat (sz n + a.length) :: cat (sz n) n ++ a)) := by
  intro n
  induction n using Nat.strongRecOn with
  | _ n ih =>
    intro a hn ha hs
    by_cases h0 : n = 0
    · subst h0
      refine Ev.succ (g := fun _ => some (S (UInt8.ofNat (sz 0 + a.length) :: cat (sz 0) 0 ++ a))) (fun k => ?_) (Ev.always fun _ => rfl)
      rw [affluxref04_Number.l0, if_neg (by simp)]
      rw [sz_zero] at hs ⊢
      have e : ((((S a).size : Nat) : Int)) % 256 = ((UInt8.ofNat a.length).toNat : Int) := by
        rw [S_size, UInt8.toNat_ofNat']; omega
      rw [Option.bind_some, e, str1, S_size, S_size, if_pos (by simp; omega), S_app]
      simp [cat]
    · have h1 : n / 256 < n := by omega
      have e0 := sz_pos h0
      have IH := ih (n / 256) h1 (UInt8.ofNat n :: a) (by omega) (by
        simp
        have := sz_8 hn
        omega) (by simp; omega)
      refine Ev.succ (g := fun k => affluxref04_Number.l0 k ((n / 256 : Nat) : Int) (S (UInt8.ofNat n :: a))) (fun k => ?_) ?_
      · rw [affluxref04_Number.l0, if_pos (by omega)]
        have e : (Int.tmod (n : Int) 256) % 256 = ((UInt8.ofNat n).toNat : Int) := by
          rw [UInt8.toNat_ofNat', Int.tmod_eq_emod_of_nonneg (by omega)]; omega
        have e1 : IntKind.u64.wrap (Int.tdiv (n : Int) 256) = ((n / 256 : Nat) : Int) := by
          rw [IntKind.wrap_u64, Int.tdiv_eq_ediv_of_nonneg (by omega)]; omega
        rw [Option.bind_some, e, str1, S_size, S_size, if_pos (by simp; omega), S_app, e1]
        rfl
      · rw [e0, cat_snoc]
        have : sz (n / 256) + (UInt8.ofNat n :: a).length = sz (n / 256) + 1 + a.length := by simp; omega
        rw [this] at IH
        simpa using IH
theorem num_f (n : Nat) (hn : n < 18446744073709551616) : Ev (fun k => affluxref04_Number.f k (n : Int)) (S (num n)) := by
  have := sz_8 hn
  have h := num_l0 n [] hn (by simp) (by simp; omega)
  simp only [List.length_nil, Nat.add_zero, List.append_nil] at h
  exact h
theorem num_loop (X : List UInt8) (y : ByteArray) (b : Bool) (r : Int × ByteArray × Bool) (v : List UInt8) (hv : v.length ≤ 8) (h : Ev (fun k => affluxref04_Part_number.l0 k (S X) (S v) (val v : Int) (v.length : Int) y b) r) :
    ∀ (q p : List UInt8), p ++ q = v → Ev (fun k => affluxref04_Part_number.l0 k (S X) (S v) (val p : Int) (p.length : Int) y b) r
  | [], p, e => by
    rw [List.append_nil] at e
    subst e; exact h
  | c :: q, p, e => by
    have IH := num_loop X y b r v hv h q (p ++ [c]) (by simpa using e)
    subst e
    simp only [List.length_append, List.length_cons, List.length_nil] at hv IH
    have hc : c.toNat < 256 := c.toNat_lt
    have hp : val p < 72057594037927936 := by
      have h1 := val_lt p
      have h2 : 256 ^ p.length ≤ 256 ^ 7 := Nat.pow_le_pow_right (by omega) (by omega)
      omega
    refine Ev.succ (fun k => ?_) IH
    rw [affluxref04_Part_number.l0, S_size, if_pos (by simp; omega), if_pos (by omega), bt_mid, val_snoc, wrap_in (by omega) (by omega)]
    congr 1
    rw [IntKind.wrap_u64, IntKind.wrap_u64, IntKind.wrap_u64]; omega
/-- The last of number. -/
theorem num_j2 (n : Int) (b c : Bool) (y : ByteArray) : Ev (fun k => affluxref04_Part_number.j2 k n b y c) (if b = true then (0, y, true) else if c = true then (0, y, true) else (n, y, false)) := by
  cases b <;> cases c <;> exact Ev.succ (g := fun _ => some _) (fun k => by rw [affluxref04_Part_number.j2]; rfl) (Ev.always fun _ => rfl)
theorem number_f {u : List UInt8} {b : Bool} {st : Option (List UInt8)} (h : PS u b st) : ∃ u' b', PS u' b' (res takeM 0 st).2 ∧ Ev (fun k => affluxref04_Part_number.f k (S u) b) ((res takeM 0 st).1, S u', b') := by
  have fall : ∀ x3 y c, Ev (fun k => affluxref04_Part_number.j0 k x3 true y c) (0, y, true) := fun x3 y c => Ev.succ (g := fun _ => some (0, y, true)) (fun k => by rw [affluxref04_Part_number.j0]; rfl) (Ev.always fun _ => rfl)
  obtain ⟨hl, h⟩ := h
  cases st with
  | none =>
    dsimp only at h
    subst h
    refine ⟨u, true, PS.mk0 hl, Ev.congr (fun k => ?_) (fall ⟨#[]⟩ (S u) true)⟩
    unfold affluxref04_Part_number.f
    rw [cut_bad]; rfl
  | some l =>
    obtain ⟨rfl, rfl⟩ := h
    cases u with
    | nil =>
      refine ⟨[], true, PS.mk0 hl, Ev.congr (fun k => ?_) (fall ⟨#[]⟩ (S []) true)⟩
      unfold affluxref04_Part_number.f
      rw [cut_short (by simp)]; rfl
    | cons c t =>
      have hc := c.toNat_lt
      simp only [List.length_cons] at hl
      have hb : bt (S [c]) 0 = (c.toNat : Int) := bt_mid [] [] c
      have start : ∀ k, affluxref04_Part_number.f k (S (c :: t)) false = affluxref04_Part_number.j0 k (S [c]) (decide ((c.toNat : Int) > 8)) (S t) false := by
        intro k
        unfold affluxref04_Part_number.f
        rw [cut_1, Option.bind_some, if_neg (by simp), if_pos (by rw [S_size]; simp), hb]
      by_cases h8 : 8 < c.toNat
      · rw [res_no (takeM_bad h8)]
        refine ⟨t, true, PS.mk0 (by omega), Ev.congr (fun k => ?_) (fall (S [c]) (S t) false)⟩
        rw [start, decide_eq_true (by omega)]
      · have go : ∀ k, affluxref04_Part_number.j0 (k + 1) (S [c]) (decide ((c.toNat : Int) > 8)) (S t) false = (affluxref04_Part_cut.f (S t) false (c.toNat : Int)).bind fun bt126 => affluxref04_Part_number.l0 k (S [c]) bt126.1 0 0 bt126.2.1 bt126.2.2 := by
          intro k
          rw [affluxref04_Part_number.j0, decide_eq_false (by omega), if_neg (by simp), if_pos (by rw [S_size]; simp), hb, wrap_in (by omega) (by omega)]
        by_cases hsh : t.length < c.toNat
        · rw [res_no (takeM_short h8 hsh)]
          refine ⟨t, true, PS.mk0 (by omega), Ev.congr start (Ev.succ (g := fun k => affluxref04_Part_number.l0 k (S [c]) ⟨#[]⟩ 0 0 (S t) true) (fun k => by rw [go, cut_short (by omega)]; rfl) (Ev.succ (fun k => ?_) (num_j2 0 false true (S t))))⟩
          rw [affluxref04_Part_number.l0, if_neg (by decide), if_pos rfl]
        · have hlen : (t.take c.toNat).length = c.toNat := by rw [List.length_take]; omega
          have hvl := val_lt (t.take c.toNat)
          have h2 : 256 ^ (t.take c.toNat).length ≤ 256 ^ 8 := Nat.pow_le_pow_right (by omega) (by omega)
          have hnv := num_val (l := t.take c.toNat) (by omega)
          have hcc : UInt8.ofNat (t.take c.toNat).length = c := by
            rw [hlen]; apply UInt8.toNat_inj.1; rw [UInt8.toNat_ofNat']; omega
          rw [hcc] at hnv
          have hcmp : ((S (num (val (t.take c.toNat)))).toList != (S [c] ++ S (t.take c.toNat)).toList) = !firm (t.take c.toNat) := by
            rw [S_app, S_list, S_list, List.singleton_append]
            cases hf : firm (t.take c.toNat) with
            | true => rw [hnv.2 hf]; simp
            | false =>
              have : ¬ num (val (t.take c.toNat)) = c :: t.take c.toNat := fun e => by rw [hnv.1 e] at hf; cases hf
              simpa using this
          have last : Ev (fun k => affluxref04_Part_number.l0 k (S [c]) (S (t.take c.toNat)) (val (t.take c.toNat) : Int) ((t.take c.toNat).length : Int) (S (t.drop c.toNat)) false) (if (!firm (t.take c.toNat)) = true then (0, S (t.drop c.toNat), true) else (((val (t.take c.toNat) : Nat) : Int), S (t.drop c.toNat), false)) := by
            refine Ev.succ (g := fun k => (affluxref04_Number.f k (val (t.take c.toNat) : Int)).bind fun t129 => affluxref04_Part_number.j2 k (val (t.take c.toNat) : Int) (t129.toList != (S [c] ++ S (t.take c.toNat)).toList) (S (t.drop c.toNat)) false) (fun k => ?_) ?_
            · rw [affluxref04_Part_number.l0, S_size, if_neg (by omega), if_neg (by decide)]
              congr 1
              funext t129
              rw [if_pos (by rw [S_size]; simp; omega)]
            · refine Ev.bind (num_f _ (by omega)) ?_
              rw [hcmp]
              exact num_j2 _ _ false _
          have all := num_loop [c] (S (t.drop c.toNat)) false _ (t.take c.toNat) (by omega) last (t.take c.toNat) [] rfl
          have fin_ : Ev (fun k => affluxref04_Part_number.f k (S (c :: t)) false) (if (!firm (t.take c.toNat)) = true then (0, S (t.drop c.toNat), true) else (((val (t.take c.toNat) : Nat) : Int), S (t.drop c.toNat), false)) :=
            Ev.congr start (Ev.succ (fun k => by rw [go, cut_ok (by omega)]; rfl) all)
          cases hf : firm (t.take c.toNat) with
          | false =>
            rw [res_no (takeM_loose h8 hsh hf)]
            rw [hf] at fin_
            exact ⟨t.drop c.toNat, true, PS.mk0 (by rw [List.length_drop]; omega), fin_⟩
          | true =>
            rw [res_yes (takeM_ok h8 hsh hf)]
            rw [hf] at fin_
            exact ⟨t.drop c.toNat, false, PS.mk1 (by rw [List.length_drop]; omega), fin_⟩
end Go.Proofs.Ytegkclehijdbiaa.PE

set_option linter.unusedVariables false
set_option linter.unusedSimpArgs false
namespace Go.Proofs.Ytegkclehijdbiaa.PF
open Go.RowKit Go.Proofs.Ytegkclehijdbiaa.PCodecTakes Go.Proofs.Ytegkclehijdbiaa.V1 Go.Proofs.Ytegkclehijdbiaa.N1 Go.Proofs.Ytegkclehijdbiaa.N2 Go.Proofs.Ytegkclehijdbiaa.N3 Go.Proofs.Ytegkclehijdbiaa.CA Go.Proofs.Ytegkclehijdbiaa.CB Go.Proofs.Ytegkclehijdbiaa.CC Go.Proofs.Ytegkclehijdbiaa.CD Go.Proofs.Ytegkclehijdbiaa.CE Go.Proofs.Ytegkclehijdbiaa.CF Go.Proofs.Ytegkclehijdbiaa.CG Go.Proofs.Ytegkclehijdbiaa.PE
open Go.Proofs.YtegkclehijdbiaaW.PrintLast hiding takeB
open Go.Proofs.YtegkclehijdbiaaW.PrintWords hiding Ev

theorem size_f (most : Int) {u : List UInt8} {b : Bool} {st : Option (List UInt8)} (h : PS u b st) (m1 : most ≤ 9223372036854775807) : ∃ u' b', PS u' b' (res (takeS most) 0 st).2 ∧ Ev (fun k => affluxref04_Part_Size.f k (S u) b most) ((res (takeS most) 0 st).1, S u', b') := by
  obtain ⟨u', b', hp, he⟩ := number_f h
  obtain ⟨n0, n1⟩ := takeM_bd (st := st)
  rw [res_takeS]
  generalize res takeM 0 st = q at *
  obtain ⟨n, s⟩ := q
  dsimp only at *
  have fall : ∀ y c, Ev (fun k => affluxref04_Part_Size.j0 k n true y c) (0, y, true) := fun y c => Ev.succ (g := fun _ => some (0, y, true)) (fun k => by rw [affluxref04_Part_Size.j0]; rfl) (Ev.always fun _ => rfl)
  have bad : ∀ y, Ev (fun k => affluxref04_Part_Size.j0 k n false y true) (0, y, true) := fun y => Ev.succ (g := fun _ => some (0, y, true)) (fun k => by rw [affluxref04_Part_Size.j0]; rfl) (Ev.always fun _ => rfl)
  by_cases hm : most < 0
  · have hres : (if s.isSome = true then (if most < 0 ∨ most < n then ((0 : Int), (none : Option (List UInt8))) else (n, s)) else (0, none)) = (0, none) := by
      cases s <;> simp [hm]
    rw [hres]
    refine ⟨u', true, PS.mk0 hp.le, ?_⟩
    exact PE.Ev.bind he (PE.Ev.congr (fun k => by dsimp only; rw [if_pos hm]) (fall (S u') b'))
  · have hw : IntKind.u64.wrap most = most := by rw [IntKind.wrap_u64]; omega
    by_cases hg : most < n
    · have hres : (if s.isSome = true then (if most < 0 ∨ most < n then ((0 : Int), (none : Option (List UInt8))) else (n, s)) else (0, none)) = (0, none) := by
        cases s <;> simp [hg]
      rw [hres]
      refine ⟨u', true, PS.mk0 hp.le, ?_⟩
      exact PE.Ev.bind he (PE.Ev.congr (fun k => by dsimp only; rw [if_neg hm, hw, decide_eq_true (by show most < n; omega)]) (fall (S u') b'))
    · cases s with
      | none =>
        have hb := hp.bad
        subst hb
        refine ⟨u', true, PS.mk0 hp.le, ?_⟩
        exact PE.Ev.bind he (PE.Ev.congr (fun k => by dsimp only; rw [if_neg hm, hw, decide_eq_false (by show ¬ most < n; omega)]) (bad (S u')))
      | some l =>
        obtain ⟨rfl, rfl⟩ := hp.some_
        have hres : (if (some u').isSome = true then (if most < 0 ∨ most < n then ((0 : Int), (none : Option (List UInt8))) else (n, some u')) else (0, none)) = (n, some u') := by
          simp [hm, hg]
        rw [hres]
        refine ⟨u', false, hp, ?_⟩
        exact PE.Ev.bind he (PE.Ev.congr (fun k => by dsimp only; rw [if_neg hm, hw, decide_eq_false (by show ¬ most < n; omega)]) (Ev.succ (f := fun k => affluxref04_Part_Size.j0 k n false (S u') false) (g := fun _ => some (n, S u', false)) (fun k => by rw [affluxref04_Part_Size.j0, if_neg (by decide), if_neg (by decide), wrap_in n0 (by omega)]) (Ev.always fun _ => rfl)))
theorem signed_f {u : List UInt8} {b : Bool} {st : Option (List UInt8)} (h : PS u b st) : ∃ u' b', PS u' b' (res takeI 0 st).2 ∧ Ev (fun k => affluxref04_Part_Signed.f k (S u) b) ((res takeI 0 st).1, S u', b') := by
  obtain ⟨u', b', hp, he⟩ := number_f h
  obtain ⟨n0, n1⟩ := takeM_bd (st := st)
  rw [res_takeI]
  generalize res takeM 0 st = q at *
  obtain ⟨n, s⟩ := q
  dsimp only at *
  refine ⟨u', b', hp, PE.Ev.bind he (Ev.always fun k => ?_)⟩
  obtain ⟨m, rfl⟩ : ∃ m : Nat, n = (m : Int) := ⟨n.toNat, by omega⟩
  rw [Int.toNat_natCast]
  have e1 : Int.tmod (m : Int) 2 = ((m % 2 : Nat) : Int) := by rw [Int.tmod_eq_emod_of_nonneg (by omega)]; omega
  have e2 : IntKind.u64.wrap (Int.tdiv (m : Int) 2) = ((m / 2 : Nat) : Int) := by rw [IntKind.wrap_u64, Int.tdiv_eq_ediv_of_nonneg (by omega)]; omega
  dsimp only
  rw [e1, e2]
  unfold zig
  by_cases hz : m % 2 = 0
  · rw [if_pos (by omega), if_pos hz, wrap_in (by omega) (by omega)]
  · have w1 : ∀ x : Int, -9223372036854775808 ≤ x → x ≤ 9223372036854775807 → wrap64 x = x := fun x h0 h1 => by unfold wrap64; omega
    rw [if_neg (by omega), if_neg hz, w1 ((m / 2 : Nat) : Int) (by omega) (by omega), w1 (-((m / 2 : Nat) : Int)) (by omega) (by omega), w1 _ (by omega) (by omega)]
theorem text_f (most : Int) {u : List UInt8} {b : Bool} {st : Option (List UInt8)} (h : PS u b st) (m1 : most ≤ 9223372036854775807) : ∃ u' b', PS u' b' (res (takeT most) ⟨#[]⟩ st).2 ∧ Ev (fun k => affluxref04_Part_Text.f k (S u) b most) ((res (takeT most) ⟨#[]⟩ st).1, S u', b') := by
  obtain ⟨u', b', hp, he⟩ := size_f most h m1
  obtain ⟨n0, n1⟩ := takeS_bd most st m1
  rw [res_takeT]
  generalize res (takeS most) 0 st = q at *
  obtain ⟨n, s⟩ := q
  dsimp only at *
  cases s with
  | none =>
    have hb := hp.bad
    subst hb
    refine ⟨u', true, PS.mk0 hp.le, PE.Ev.bind he (Ev.always fun k => ?_)⟩
    dsimp only
    rw [cut_bad]; rfl
  | some l =>
    obtain ⟨rfl, rfl⟩ := hp.some_
    obtain ⟨m, rfl⟩ : ∃ m : Nat, n = (m : Int) := ⟨n.toNat, by omega⟩
    dsimp only
    rw [Int.toNat_natCast]
    by_cases hs : (u'.length : Int) < (m : Int)
    · rw [if_pos hs]
      refine ⟨u', true, PS.mk0 hp.le, PE.Ev.bind he (Ev.always fun k => ?_)⟩
      dsimp only
      rw [cut_short (by omega)]; rfl
    · rw [if_neg hs]
      refine ⟨u'.drop m, false, PS.mk1 (by have := hp.le; rw [List.length_drop]; omega), PE.Ev.bind he (Ev.always fun k => ?_)⟩
      dsimp only
      rw [cut_ok (by omega)]; rfl
end Go.Proofs.Ytegkclehijdbiaa.PF

set_option linter.unusedVariables false
set_option linter.unusedSimpArgs false
namespace Go.Proofs.Ytegkclehijdbiaa.PG
open Go.RowKit Go.Proofs.Ytegkclehijdbiaa.PCodecTakes Go.Proofs.Ytegkclehijdbiaa.V1 Go.Proofs.Ytegkclehijdbiaa.N1 Go.Proofs.Ytegkclehijdbiaa.N2 Go.Proofs.Ytegkclehijdbiaa.N3 Go.Proofs.Ytegkclehijdbiaa.CA Go.Proofs.Ytegkclehijdbiaa.CB Go.Proofs.Ytegkclehijdbiaa.CC Go.Proofs.Ytegkclehijdbiaa.CD Go.Proofs.Ytegkclehijdbiaa.CE Go.Proofs.Ytegkclehijdbiaa.CF Go.Proofs.Ytegkclehijdbiaa.CG Go.Proofs.Ytegkclehijdbiaa.PE Go.Proofs.Ytegkclehijdbiaa.PF
open Go.Proofs.YtegkclehijdbiaaW.PrintLast hiding takeB
open Go.Proofs.YtegkclehijdbiaaW.PrintWords hiding Ev

theorem right_f (k n : Int) (s : ByteArray) : affluxref02_Right.f k n s = some (okV ⟨k, n, s⟩) := by
  have e : (s.toList == []) = s.toList.isEmpty := by cases s.toList <;> rfl
  unfold affluxref02_Right.f okV
  rw [e]
  have e2 : (s.toList = []) ↔ s.toList.isEmpty = true := by simp
  simp only [e2]
  by_cases h1 : k = 1
  · subst h1; cases s.toList.isEmpty <;> simp
  · by_cases h2 : k = 2
    · subst h2
      by_cases h3 : n = 0
      · by_cases h4 : (s.size : Int) ≤ 200 <;> simp [h3, h4]
      · simp [h3]
    · by_cases h3 : k = 3
      · subst h3
        by_cases h4 : n = 0
        · cases s.toList.isEmpty <;> simp [h4]
        · by_cases h5 : n = 1 <;> cases s.toList.isEmpty <;> simp [h4, h5]
      · simp [h1, h2, h3]
/-- The last of Value. -/
theorem fin_f (v : Vl) {u : List UInt8} {b : Bool} {s : Option (List UInt8)} (hp : PS u b s) : ∃ b', PS u b' (fin v s).2 ∧
    (if b = true then some ((0 : Int), (0 : Int), (⟨#[]⟩ : ByteArray), S u, true) else (affluxref02_Right.f v.k v.n v.s).bind fun t => if t = true then some (v.k, v.n, v.s, S u, b) else some (0, 0, ⟨#[]⟩, S u, true)) = some ((fin v s).1.k, (fin v s).1.n, (fin v s).1.s, S u, b') := by
  cases s with
  | none =>
    have hb := hp.bad
    subst hb
    rw [fin_bad]
    exact ⟨true, PS.mk0 hp.le, by rw [if_pos rfl]; rfl⟩
  | some l =>
    obtain ⟨rfl, rfl⟩ := hp.some_
    rw [if_neg (by decide), right_f, Option.bind_some]
    cases hv : okV v with
    | true =>
      rw [fin_ok hv]
      exact ⟨false, hp, by rw [if_pos rfl]⟩
    | false =>
      rw [fin_wrong hv]
      exact ⟨true, PS.mk0 hp.le, by rw [if_neg (by decide)]; rfl⟩
theorem value_f {u : List UInt8} {b : Bool} {st : Option (List UInt8)} (h : PS u b st) : ∃ u' b', PS u' b' (res takeV zV st).2 ∧ Ev (fun k => affluxref04_Part_Value.f k (S u) b) ((res takeV zV st).1.k, (res takeV zV st).1.n, (res takeV zV st).1.s, S u', b') := by
  have fall : ∀ y, Ev (fun k => affluxref04_Part_Value.j0 k y true 0 0 ⟨#[]⟩) ((0 : Int), (0 : Int), (⟨#[]⟩ : ByteArray), y, true) := fun y => Ev.succ (g := fun _ => some ((0 : Int), (0 : Int), (⟨#[]⟩ : ByteArray), y, true)) (fun k => by rw [affluxref04_Part_Value.j0]; rfl) (Ev.always fun _ => rfl)
  have hle := h.le
  cases st with
  | none =>
    have hb := h.bad
    subst hb
    refine ⟨u, true, PS.mk0 hle, PE.Ev.congr (fun k => ?_) (fall (S u))⟩
    unfold affluxref04_Part_Value.f
    rw [cut_bad]; rfl
  | some l =>
    obtain ⟨rfl, rfl⟩ := h.some_
    cases u with
    | nil =>
      refine ⟨[], true, PS.mk0 hle, PE.Ev.congr (fun k => ?_) (fall (S []))⟩
      unfold affluxref04_Part_Value.f
      rw [cut_short (by simp)]; rfl
    | cons c t =>
      have hc := c.toNat_lt
      simp only [List.length_cons] at hle
      have hb : bt (S [c]) 0 = (c.toNat : Int) := bt_mid [] [] c
      have start : ∀ k, affluxref04_Part_Value.f k (S (c :: t)) false = affluxref04_Part_Value.j0 k (S t) false (c.toNat : Int) 0 ⟨#[]⟩ := by
        intro k
        unfold affluxref04_Part_Value.f
        rw [cut_1, Option.bind_some, if_neg (by simp), if_pos (by rw [S_size]; simp), hb, wrap_in (by omega) (by omega)]
      have ht : PS t false (some t) := PS.mk1 (by omega)
      by_cases h1 : c = 1
      · subst h1
        obtain ⟨u', b', hp, he⟩ := signed_f ht
        rw [V_1]
        obtain ⟨b2, hp2, hf⟩ := fin_f ⟨1, (res takeI 0 (some t)).1, ⟨#[]⟩⟩ hp
        refine ⟨u', b2, hp2, PE.Ev.congr start (Ev.succ (fun k => ?_) (PE.Ev.bind (g := fun k bt148 => if bt148.2.2 = true then some (0, 0, (⟨#[]⟩ : ByteArray), bt148.2.1, true) else (affluxref02_Right.f 1 bt148.1 ⟨#[]⟩).bind fun t151 => if t151 = true then some (1, bt148.1, ⟨#[]⟩, bt148.2.1, bt148.2.2) else some (0, 0, ⟨#[]⟩, bt148.2.1, true)) he (Ev.always fun k => hf)))⟩
        rw [affluxref04_Part_Value.j0, if_pos (by decide)]; rfl
      · by_cases h2 : c = 2
        · subst h2
          obtain ⟨u', b', hp, he⟩ := text_f 200 ht (by omega)
          rw [V_2]
          obtain ⟨b2, hp2, hf⟩ := fin_f ⟨2, 0, (res (takeT 200) ⟨#[]⟩ (some t)).1⟩ hp
          refine ⟨u', b2, hp2, PE.Ev.congr start (Ev.succ (fun k => ?_) (PE.Ev.bind (g := fun k bt152 => if bt152.2.2 = true then some (0, 0, (⟨#[]⟩ : ByteArray), bt152.2.1, true) else (affluxref02_Right.f 2 0 bt152.1).bind fun t151 => if t151 = true then some (2, 0, bt152.1, bt152.2.1, bt152.2.2) else some (0, 0, ⟨#[]⟩, bt152.2.1, true)) he (Ev.always fun k => hf)))⟩
          rw [affluxref04_Part_Value.j0, if_neg (by decide), if_pos (by decide)]; rfl
        · by_cases h3 : c = 3
          · subst h3
            rw [V_3]
            cases t with
            | nil =>
              obtain ⟨b2, hp2, hf⟩ := fin_f ⟨3, (res takeB 0 (some ([] : List UInt8))).1, ⟨#[]⟩⟩ (PS.mk0 (u := []) (by simp))
              refine ⟨[], b2, hp2, PE.Ev.congr start (Ev.succ (g := fun _ => _) (fun k => ?_) (Ev.always fun _ => hf))⟩
              rw [affluxref04_Part_Value.j0, if_neg (by decide), if_neg (by decide), if_pos (by decide), cut_short (by simp)]; rfl
            | cons d t =>
              have hd := d.toNat_lt
              simp only [List.length_cons] at hle
              have hb2 : bt (S [d]) 0 = (d.toNat : Int) := bt_mid [] [] d
              have e := res_yes (f := takeB) (d := 0) (l := d :: t) (v := (d.toNat : Int)) (r := t) rfl
              rw [e]
              obtain ⟨b2, hp2, hf⟩ := fin_f ⟨3, (d.toNat : Int), ⟨#[]⟩⟩ (PS.mk1 (u := t) (by omega))
              refine ⟨t, b2, hp2, PE.Ev.congr start (Ev.succ (g := fun _ => _) (fun k => ?_) (Ev.always fun _ => hf))⟩
              rw [affluxref04_Part_Value.j0, if_neg (by decide), if_neg (by decide), if_pos (by decide), cut_1, Option.bind_some, if_neg (by simp), if_pos (by rw [S_size]; simp), hb2, wrap_in (by omega) (by omega)]; rfl
          · have k : ∀ m : UInt8, c ≠ m → (c.toNat : Int) ≠ (m.toNat : Int) := fun m h e => h (UInt8.toNat_inj.1 (by omega))
            rw [V_x c t (some t) h1 h2 h3]
            obtain ⟨b2, hp2, hf⟩ := fin_f ⟨(c.toNat : Int), 0, ⟨#[]⟩⟩ ht
            refine ⟨t, b2, hp2, PE.Ev.congr start (Ev.succ (g := fun _ => _) (fun k' => ?_) (Ev.always fun _ => hf))⟩
            have k1 : ¬ ((c.toNat : Int) = 1) := k 1 h1
            have k2 : ¬ ((c.toNat : Int) = 2) := k 2 h2
            have k3 : ¬ ((c.toNat : Int) = 3) := k 3 h3
            rw [affluxref04_Part_Value.j0, if_neg k1, if_neg k2, if_neg k3]
def toS (v : Vl) : S56 := ⟨v.k, v.n, v.s⟩
theorem more_none (acc : List Vl) (m : Nat) : more acc m none = ([], none) := rfl
theorem v_room {u : List UInt8} : ∀ q, (res takeV zV (some u)).2 = some q → q.length < u.length := by
  intro q hq
  obtain ⟨l', e, hh⟩ := res_some hq
  cases e; exact takeV_le hh
theorem row_l0 : ∀ (m : Nat) (acc : List Vl) {u : List UInt8} {b : Bool} {st : Option (List UInt8)}, PS u b st → (∀ l, st = some l → acc.length + l.length ≤ 1000000) → acc.length + m ≤ 9223372036854775807 →
    ∃ u' b', PS u' b' (more acc m st).2 ∧ Ev (fun k => affluxref04_Part_Row.l0 k ((acc.length + m : Nat) : Int) (acc.map toS) (acc.length : Int) (S u) b) ((more acc m st).1.map toS, S u', b') := by
  intro m
  induction m with
  | zero =>
    intro acc u b st h hb hm
    cases st with
    | none =>
      have hb := h.bad
      subst hb
      refine ⟨u, true, PS.mk0 h.le, Ev.succ (g := fun _ => some ([], S u, true)) (fun k => ?_) (Ev.always fun _ => rfl)⟩
      rw [affluxref04_Part_Row.l0, if_neg (by omega), if_pos rfl]
    | some l =>
      obtain ⟨rfl, rfl⟩ := h.some_
      rw [more_zero]
      refine ⟨u, false, h, Ev.succ (g := fun _ => some (acc.map toS, S u, false)) (fun k => ?_) (Ev.always fun _ => rfl)⟩
      rw [affluxref04_Part_Row.l0, if_neg (by omega), if_neg (by decide)]
  | succ m ih =>
    intro acc u b st h hb hm
    cases st with
    | none =>
      have hb := h.bad
      subst hb
      refine ⟨u, true, PS.mk0 h.le, Ev.succ (g := fun _ => some ([], S u, true)) (fun k => ?_) (Ev.always fun _ => rfl)⟩
      rw [affluxref04_Part_Row.l0, if_pos (by omega), if_pos rfl]
    | some l =>
      obtain ⟨rfl, rfl⟩ := h.some_
      have hla := hb u rfl
      obtain ⟨u1, b1, hp1, he1⟩ := value_f h
      rw [more_step]
      have hr := v_room (u := u)
      generalize res takeV zV (some u) = p at *
      obtain ⟨v, s2⟩ := p
      dsimp only at *
      obtain ⟨u2, b2, hp2, he2⟩ := ih (acc ++ [v]) hp1 (fun l hl => by have := hr l hl; simp only [List.length_append, List.length_cons, List.length_nil]; omega) (by simp only [List.length_append, List.length_cons, List.length_nil]; omega)
      refine ⟨u2, b2, hp2, Ev.succ (g := fun k => (affluxref04_Part_Value.f k (S u) false).bind fun bt164 => affluxref04_Part_Row.l0 k ((acc.length + (m + 1) : Nat) : Int) (acc.map toS ++ [(⟨bt164.1, bt164.2.1, bt164.2.2.1⟩ : S56)]) (wrap64 ((acc.length : Int) + 1)) bt164.2.2.2.1 bt164.2.2.2.2) (fun k => ?_) (PE.Ev.bind he1 (PE.Ev.congr (fun k => ?_) he2))⟩
      · rw [affluxref04_Part_Row.l0, if_pos (by omega), if_neg (by decide)]
        congr 1
        funext bt164
        rw [if_pos (by simp; omega)]
      · dsimp only
        rw [wrap_in (by omega) (by omega)]
        simp only [List.length_append, List.length_cons, List.length_nil, List.map_append, List.map_cons, List.map_nil, toS]
        rw [show acc.length + (0 + 1) + m = acc.length + (m + 1) by omega]
        rfl
theorem row_f (most : Int) {u : List UInt8} {b : Bool} {st : Option (List UInt8)} (h : PS u b st) (m1 : most ≤ 9223372036854775807) : ∃ u' b', PS u' b' (res (takeRow most) [] st).2 ∧ Ev (fun k => affluxref04_Part_Row.f k (S u) b most) ((res (takeRow most) [] st).1.map toS, S u', b') := by
  obtain ⟨u1, b1, hp1, he1⟩ := size_f most h m1
  obtain ⟨n0, n1⟩ := takeS_bd most st m1
  have hroom := takeS_room (most := most) (st := st) (B := 1000000) (fun l hl => by subst hl; obtain ⟨_, e⟩ := h.some_; rw [← e]; exact h.le)
  rw [more_start]
  generalize res (takeS most) 0 st = q at *
  obtain ⟨n, s⟩ := q
  dsimp only at *
  obtain ⟨m, rfl⟩ : ∃ m : Nat, n = (m : Int) := ⟨n.toNat, by omega⟩
  rw [Int.toNat_natCast]
  obtain ⟨u2, b2, hp2, he2⟩ := row_l0 m [] hp1 (fun l hl => by simpa using hroom l hl) (by simp; omega)
  refine ⟨u2, b2, hp2, PE.Ev.bind he1 (PE.Ev.congr (fun k => ?_) he2)⟩
  dsimp only
  simp
theorem rows_l0 (cols : Int) (c1 : cols ≤ 9223372036854775807) : ∀ (m : Nat) (acc : List (List Vl)) {u : List UInt8} {b : Bool} {st : Option (List UInt8)}, PS u b st → (∀ l, st = some l → acc.length + l.length ≤ 1000000) → acc.length + m ≤ 9223372036854775807 →
    ∃ u' b', PS u' b' (moreR cols acc m st).2 ∧ Ev (fun k => affluxref04_Part_Rows.l0 k cols ((acc.length + m : Nat) : Int) (acc.map (List.map toS)) (acc.length : Int) (S u) b) ((moreR cols acc m st).1.map (List.map toS), S u', b') := by
  intro m
  induction m with
  | zero =>
    intro acc u b st h hb hm
    cases st with
    | none =>
      have hb := h.bad
      subst hb
      refine ⟨u, true, PS.mk0 h.le, Ev.succ (g := fun _ => some ([], S u, true)) (fun k => ?_) (Ev.always fun _ => rfl)⟩
      rw [affluxref04_Part_Rows.l0, if_neg (by omega), if_pos rfl]
    | some l =>
      obtain ⟨rfl, rfl⟩ := h.some_
      rw [moreR_zero]
      refine ⟨u, false, h, Ev.succ (g := fun _ => some (acc.map (List.map toS), S u, false)) (fun k => ?_) (Ev.always fun _ => rfl)⟩
      rw [affluxref04_Part_Rows.l0, if_neg (by omega), if_neg (by decide)]
  | succ m ih =>
    intro acc u b st h hb hm
    cases st with
    | none =>
      have hb := h.bad
      subst hb
      refine ⟨u, true, PS.mk0 h.le, Ev.succ (g := fun _ => some ([], S u, true)) (fun k => ?_) (Ev.always fun _ => rfl)⟩
      rw [affluxref04_Part_Rows.l0, if_pos (by omega), if_pos rfl]
    | some l =>
      obtain ⟨rfl, rfl⟩ := h.some_
      have hla := hb u rfl
      obtain ⟨u1, b1, hp1, he1⟩ := row_f cols h c1
      rw [moreR_step]
      have hr := takeRow_room (cols := cols) (l := u)
      generalize res (takeRow cols) [] (some u) = p at *
      obtain ⟨v, s2⟩ := p
      dsimp only at *
      obtain ⟨u2, b2, hp2, he2⟩ := ih (acc ++ [v]) hp1 (fun l hl => by have := hr l hl; simp only [List.length_append, List.length_cons, List.length_nil]; omega) (by simp only [List.length_append, List.length_cons, List.length_nil]; omega)
      refine ⟨u2, b2, hp2, Ev.succ (g := fun k => (affluxref04_Part_Row.f k (S u) false cols).bind fun bt175 => affluxref04_Part_Rows.l0 k cols ((acc.length + (m + 1) : Nat) : Int) (acc.map (List.map toS) ++ [bt175.1]) (wrap64 ((acc.length : Int) + 1)) bt175.2.1 bt175.2.2) (fun k => ?_) (PE.Ev.bind he1 (PE.Ev.congr (fun k => ?_) he2))⟩
      · rw [affluxref04_Part_Rows.l0, if_pos (by omega), if_neg (by decide)]
        congr 1
        funext bt175
        rw [if_pos (by simp; omega)]
      · dsimp only
        rw [wrap_in (by omega) (by omega)]
        simp only [List.length_append, List.length_cons, List.length_nil, List.map_append, List.map_cons, List.map_nil]
        rw [show acc.length + (0 + 1) + m = acc.length + (m + 1) by omega]
        rfl
theorem rows_f (most cols : Int) {u : List UInt8} {b : Bool} {st : Option (List UInt8)} (h : PS u b st) (m1 : most ≤ 9223372036854775807) (c1 : cols ≤ 9223372036854775807) : ∃ u' b', PS u' b' (res (takeRows most cols) [] st).2 ∧ Ev (fun k => affluxref04_Part_Rows.f k (S u) b most cols) ((res (takeRows most cols) [] st).1.map (List.map toS), S u', b') := by
  obtain ⟨u1, b1, hp1, he1⟩ := size_f most h m1
  obtain ⟨n0, n1⟩ := takeS_bd most st m1
  have hroom := takeS_room (most := most) (st := st) (B := 1000000) (fun l hl => by subst hl; obtain ⟨_, e⟩ := h.some_; rw [← e]; exact h.le)
  rw [moreR_start]
  generalize res (takeS most) 0 st = q at *
  obtain ⟨n, s⟩ := q
  dsimp only at *
  obtain ⟨m, rfl⟩ : ∃ m : Nat, n = (m : Int) := ⟨n.toNat, by omega⟩
  rw [Int.toNat_natCast]
  obtain ⟨u2, b2, hp2, he2⟩ := rows_l0 cols c1 m [] hp1 (fun l hl => by simpa using hroom l hl) (by simp; omega)
  refine ⟨u2, b2, hp2, PE.Ev.bind he1 (PE.Ev.congr (fun k => ?_) he2)⟩
  dsimp only
  simp
end Go.Proofs.Ytegkclehijdbiaa.PG

set_option linter.unusedVariables false
set_option linter.unusedSimpArgs false
namespace Go.Proofs.Ytegkclehijdbiaa.PH
open Go.RowKit Go.Proofs.Ytegkclehijdbiaa.PCodecTakes Go.Proofs.Ytegkclehijdbiaa.V1 Go.Proofs.Ytegkclehijdbiaa.V3 Go.Proofs.Ytegkclehijdbiaa.N1 Go.Proofs.Ytegkclehijdbiaa.N2 Go.Proofs.Ytegkclehijdbiaa.N3 Go.Proofs.Ytegkclehijdbiaa.CA Go.Proofs.Ytegkclehijdbiaa.CB Go.Proofs.Ytegkclehijdbiaa.CC Go.Proofs.Ytegkclehijdbiaa.CD Go.Proofs.Ytegkclehijdbiaa.CE Go.Proofs.Ytegkclehijdbiaa.CF Go.Proofs.Ytegkclehijdbiaa.CG Go.Proofs.Ytegkclehijdbiaa.PE Go.Proofs.Ytegkclehijdbiaa.PF Go.Proofs.Ytegkclehijdbiaa.PG
open Go.Proofs.YtegkclehijdbiaaW.PrintLast hiding takeB
open Go.Proofs.YtegkclehijdbiaaW.PrintWords hiding Ev

/-- The reference's part at block g, in state st. -/
def Pt (w0 w : World) (g : Nat) (st : Option (List UInt8)) : Prop := ∃ u b, IsS77 w0 w g (S u) b ∧ PS u b st ∧ Below w0.heap.size w0 w
/-- What a part's method leaves. -/
def PtS (w0 w : World) (g : Nat) (r : Value) (st : Option (List UInt8)) (e : Ending) (w' : World) : Prop := e = .returned r ∧ Pt w0 w' g st ∧ Keep1 g w w'
theorem keep1 {w0 w w' : World} {g : Nat} (h : KeepBut w w' g none) (hb : Below w0.heap.size w0 w) (hb' : Below w0.heap.size w0 w') : Keep1 g w w' :=
  ⟨hb'.os.trans hb.os.symm, hb'.tape.trans hb.tape.symm, hb'.output.trans hb.output.symm, h.1, fun k hk hg => h.2 k hk hg (by simp)⟩
theorem ev_some {α : Type} {f : Nat → Option α} {r : α} (h : PE.Ev f r) : ∃ k, f k = some r := by
  obtain ⟨K, h⟩ := h
  exact ⟨K, h K (Nat.le_refl _)⟩
theorem size79 (w0 : World) (g : Nat) (most : Int) (st : Option (List UInt8)) (w : World) (h : Pt w0 w g st) (m1 : most ≤ 9223372036854775807) : Calls Try.prog 79 #[.pointer (some ⟨g, 0, none⟩), .int .i64 most] w (PtS w0 w g (.int .i64 (res (takeS most) 0 st).1) (res (takeS most) 0 st).2) := by
  obtain ⟨u, b, hI, hP, hB⟩ := h
  obtain ⟨u', b', hp, he⟩ := size_f most hP m1
  obtain ⟨k, hk⟩ := ev_some he
  refine (affluxref04_Part_Size.calls k g (S u) b most _ _ _ w0 w hI hB hk).mono ?_
  rintro e w' ⟨rfl, h1, h2, h3⟩
  exact ⟨rfl, ⟨u', b', h1, hp, h2⟩, keep1 h3 hB h2⟩
theorem signed80 (w0 : World) (g : Nat) (st : Option (List UInt8)) (w : World) (h : Pt w0 w g st) : Calls Try.prog 80 #[.pointer (some ⟨g, 0, none⟩)] w (PtS w0 w g (.int .i64 (res takeI 0 st).1) (res takeI 0 st).2) := by
  obtain ⟨u, b, hI, hP, hB⟩ := h
  obtain ⟨u', b', hp, he⟩ := signed_f hP
  obtain ⟨k, hk⟩ := ev_some he
  refine (affluxref04_Part_Signed.calls k g (S u) b _ _ _ w0 w hI hB hk).mono ?_
  rintro e w' ⟨rfl, h1, h2, h3⟩
  exact ⟨rfl, ⟨u', b', h1, hp, h2⟩, keep1 h3 hB h2⟩
theorem text81 (w0 : World) (g : Nat) (most : Int) (st : Option (List UInt8)) (w : World) (h : Pt w0 w g st) (m1 : most ≤ 9223372036854775807) : Calls Try.prog 81 #[.pointer (some ⟨g, 0, none⟩), .int .i64 most] w (PtS w0 w g (.string (res (takeT most) ⟨#[]⟩ st).1) (res (takeT most) ⟨#[]⟩ st).2) := by
  obtain ⟨u, b, hI, hP, hB⟩ := h
  obtain ⟨u', b', hp, he⟩ := text_f most hP m1
  obtain ⟨k, hk⟩ := ev_some he
  refine (affluxref04_Part_Text.calls k g (S u) b most _ _ _ w0 w hI hB hk).mono ?_
  rintro e w' ⟨rfl, h1, h2, h3⟩
  exact ⟨rfl, ⟨u', b', h1, hp, h2⟩, keep1 h3 hB h2⟩
theorem value83 (w0 : World) (g : Nat) (st : Option (List UInt8)) (w : World) (h : Pt w0 w g st) : Calls Try.prog 83 #[.pointer (some ⟨g, 0, none⟩)] w (PtS w0 w g (res takeV zV st).1.agg (res takeV zV st).2) := by
  obtain ⟨u, b, hI, hP, hB⟩ := h
  obtain ⟨u', b', hp, he⟩ := value_f hP
  obtain ⟨k, hk⟩ := ev_some he
  refine (affluxref04_Part_Value.calls k g (S u) b _ _ _ _ _ w0 w hI hB hk).mono ?_
  rintro e w' ⟨rfl, h1, h2, h3⟩
  exact ⟨rfl, ⟨u', b', h1, hp, h2⟩, keep1 h3 hB h2⟩
/-- A row of the reference, as a row of values. -/
theorem rdV_R {w : World} {base : Nat} {ok : Nat → Prop} {v : Value} {l : List Vl} (h : Kd.R k56 56 w base ok v (l.map toS)) (hf : ∀ x ∈ l, x.Fit) : ∃ A c, v = .slice A l.length c ∧ RdV w A l.length l ∧ l.length ≤ c ∧ c ≤ 9223372036854775807 := by
  obtain ⟨inner, hown⟩ := Kd.R_own h
  obtain ⟨A, c, rfl, hlc, hC⟩ := Kd.R_reads h
  rw [List.length_map] at hown hlc hC ⊢
  rcases hown.2 with ⟨e, h0⟩ | ⟨g, cap, cur, e, _, _, h1, h2, _⟩
  · injection e with e1 e2 e3
    subst e3
    obtain rfl := List.eq_nil_of_length_eq_zero h0
    exact ⟨A, 0, rfl, rdV_nil _ _, by simp, by omega⟩
  · injection e with e1 e2 e3
    subst e1 e3
    refine ⟨_, c, rfl, ⟨rfl, Nat.le_trans h1 h2, fun _ => ⟨g, 0, rfl, fun i hi => ?_⟩⟩, h1, h2⟩
    obtain ⟨ad, e, c0, c1, c2⟩ := at_T56 hC (i : Int) (by omega) (by omega)
    cases e
    have er : rd_T56 (l.map toS) (i : Int) = toS (el l i) := by simp [rd_T56, el, List.getD, hi]
    rw [er, Int.toNat_natCast, V1.add_at] at c0 c1 c2
    refine ⟨c0, c1, c2, hf _ ?_⟩
    have : el l i = l[i] := by simp [el, List.getD, hi]
    rw [this]; exact List.getElem_mem _
theorem takeVs_fit : ∀ (n : Nat) {vs : List Vl} {l r : List UInt8}, takeVs n l = some (vs, r) → ∀ x ∈ vs, x.Fit
  | 0, vs, l, r, h => by simp only [takeVs, Option.some.injEq, Prod.mk.injEq] at h; rw [← h.1]; intro x hx; cases hx
  | n + 1, vs, l, r, h => by
    rw [takeVs] at h
    split at h
    · cases h
    · rename_i v1 q1 e
      split at h
      · cases h
      · rename_i e2
        simp only [Option.some.injEq, Prod.mk.injEq] at h
        rw [← h.1]
        intro x hx
        rcases List.mem_cons.1 hx with rfl | hx
        · have := v_fit (some l)
          rwa [res_yes (f := takeV) e] at this
        · exact takeVs_fit n e2 x hx
theorem row_fit (most : Int) (st : Option (List UInt8)) : ∀ x ∈ (res (takeRow most) [] st).1, x.Fit := by
  cases st with
  | none => intro x hx; cases hx
  | some l =>
    cases h : takeRow most l with
    | none => rw [res_no h]; intro x hx; cases hx
    | some p =>
      rw [res_yes (v := p.1) (r := p.2) h]
      unfold takeRow at h
      split at h
      · cases h
      · exact takeVs_fit _ h
theorem takeRs_fit (cols : Int) : ∀ (n : Nat) {vs : List (List Vl)} {l r : List UInt8}, takeRs cols n l = some (vs, r) → ∀ y ∈ vs, ∀ x ∈ y, x.Fit
  | 0, vs, l, r, h => by simp only [takeRs, Option.some.injEq, Prod.mk.injEq] at h; rw [← h.1]; intro x hx; cases hx
  | n + 1, vs, l, r, h => by
    rw [takeRs] at h
    split at h
    · cases h
    · rename_i v1 q1 e
      split at h
      · cases h
      · rename_i e2
        simp only [Option.some.injEq, Prod.mk.injEq] at h
        rw [← h.1]
        intro y hy
        rcases List.mem_cons.1 hy with rfl | hy
        · have := row_fit cols (some l)
          rwa [res_yes (f := takeRow cols) e] at this
        · exact takeRs_fit cols n e2 y hy
theorem rows_fit (most cols : Int) (st : Option (List UInt8)) : ∀ y ∈ (res (takeRows most cols) [] st).1, ∀ x ∈ y, x.Fit := by
  cases st with
  | none => intro x hx; cases hx
  | some l =>
    cases h : takeRows most cols l with
    | none => rw [res_no h]; intro x hx; cases hx
    | some p =>
      rw [res_yes (v := p.1) (r := p.2) h]
      unfold takeRows at h
      split at h
      · cases h
      · exact takeRs_fit cols _ h
/-- What Row leaves. -/
def PtV (w0 w : World) (g : Nat) (p : List Vl × Option (List UInt8)) (e : Ending) (w' : World) : Prop := ∃ A n c, e = .returned (.slice A n c) ∧ RdV w' A n p.1 ∧ n ≤ c ∧ c ≤ 9223372036854775807 ∧ Pt w0 w' g p.2 ∧ Keep1 g w w'
theorem prow85 (w0 : World) (g : Nat) (most : Int) (st : Option (List UInt8)) (w : World) (h : Pt w0 w g st) (m1 : most ≤ 9223372036854775807) : Calls Try.prog 85 #[.pointer (some ⟨g, 0, none⟩), .int .i64 most] w (PtV w0 w g (res (takeRow most) [] st)) := by
  obtain ⟨u, b, hI, hP, hB⟩ := h
  obtain ⟨u', b', hp, he⟩ := row_f most hP m1
  obtain ⟨k, hk⟩ := ev_some he
  refine (affluxref04_Part_Row.calls k g (S u) b most _ _ _ w0 w hI hB hk).mono ?_
  rintro e w' ⟨v, rfl, hR, h1, h2, h3⟩
  obtain ⟨A, c, rfl, hr, hc, hm⟩ := rdV_R hR (row_fit most st)
  exact ⟨A, _, c, rfl, hr, hc, hm, ⟨u', b', h1, hp, h2⟩, keep1 h3 hB h2⟩
/-- Rows of the reference. -/
theorem rdR_S {w : World} {base : Nat} {ok : Nat → Prop} {v : Value} {ls : List (List Vl)} (h : Kd.S (Kd.slice 56 k56) 48 w base ok v (ls.map (List.map toS))) (hf : ∀ y ∈ ls, ∀ x ∈ y, x.Fit) : ∃ A c, v = .slice A ls.length c ∧ RdR w A ls.length ls ∧ ls.length ≤ c ∧ c ≤ 9223372036854775807 := by
  obtain ⟨h0, inner, hown, hr⟩ := Kd.S_R h
  rw [List.length_map] at hown
  have hown' := hown
  rcases hown.2 with ⟨rfl, hz⟩ | ⟨g, cap, cur, rfl, _, _, h1, h2, _⟩
  · obtain rfl := List.eq_nil_of_length_eq_zero hz
    exact ⟨none, 0, rfl, rdR_nil _ _, by simp, by omega⟩
  · refine ⟨_, cap, rfl, ⟨rfl, Nat.le_trans h1 h2, fun _ => ⟨g, 0, rfl, fun i hi => ?_⟩⟩, h1, h2⟩
    have hM := hr.2 i ((ls[i]).map toS) (by simp [hi])
    obtain ⟨v1, e1, hR1⟩ := hM
    have e2 : el ls i = ls[i] := by simp [el, List.getD, hi]
    obtain ⟨A, c, rfl, hV, hc, hm⟩ := rdV_R hR1 (hf _ (List.getElem_mem hi))
    rw [e2]
    refine ⟨A, _, c, ?_, hV, hc, hm⟩
    have hcell := hown'.cells (g := g) rfl i (.slice A (ls[i]).length c) (by
      change List.take 1 (List.drop (i * 1) inner) = _ at e1
      have := congrArg (fun z => z[0]?) e1
      simpa using this)
    rw [add_plain] at hcell
    rw [show 0 + i * 1 = i by omega]; exact hcell
/-- What Rows leaves. -/
def PtR (w0 w : World) (g : Nat) (p : List (List Vl) × Option (List UInt8)) (e : Ending) (w' : World) : Prop := ∃ A n c, e = .returned (.slice A n c) ∧ RdR w' A n p.1 ∧ n ≤ c ∧ c ≤ 9223372036854775807 ∧ Pt w0 w' g p.2 ∧ Keep1 g w w'
theorem prows86 (w0 : World) (g : Nat) (most cols : Int) (st : Option (List UInt8)) (w : World) (h : Pt w0 w g st) (m1 : most ≤ 9223372036854775807) (k1 : cols ≤ 9223372036854775807) : Calls Try.prog 86 #[.pointer (some ⟨g, 0, none⟩), .int .i64 most, .int .i64 cols] w (PtR w0 w g (res (takeRows most cols) [] st)) := by
  obtain ⟨u, b, hI, hP, hB⟩ := h
  obtain ⟨u', b', hp, he⟩ := rows_f most cols hP m1 k1
  obtain ⟨k, hk⟩ := ev_some he
  refine (affluxref04_Part_Rows.calls k g (S u) b most cols _ _ _ w0 w hI hB hk).mono ?_
  rintro e w' ⟨v, rfl, hR, h1, h2, h3⟩
  obtain ⟨A, c, rfl, hr, hc, hm⟩ := rdR_S hR (rows_fit most cols st)
  exact ⟨A, _, c, rfl, hr, hc, hm, ⟨u', b', h1, hp, h2⟩, keep1 h3 hB h2⟩
end Go.Proofs.Ytegkclehijdbiaa.PH
