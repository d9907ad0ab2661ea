import Derived.Test.YtegkclehijdbiaaMA
import Derived.Laws.Bits64b
set_option linter.unusedVariables false
namespace Go.Proofs.Ytegkclehijdbiaa.N1
/-- The number that bytes are, the greatest first. -/
def val (l : List UInt8) : Nat := l.foldl (fun a c => a * 256 + c.toNat) 0
/-- So many bytes of a number, the greatest first. -/
def cat : Nat → Nat → List UInt8
  | 0, _ => []
  | k + 1, n => UInt8.ofNat (n / 256 ^ k) :: cat k n
/-- How many bytes a number has. -/
def sz (n : Nat) : Nat := if h : n = 0 then 0 else sz (n / 256) + 1
decreasing_by omega
theorem sz_zero : sz 0 = 0 := by rw [sz]; rfl
theorem sz_pos {n : Nat} (h : n ≠ 0) : sz n = sz (n / 256) + 1 := by rw [sz]; simp [h]
theorem sz_le : ∀ (k n : Nat), n / 256 ^ k = 0 ↔ sz n ≤ k
  | 0, n => by
    by_cases h : n = 0
    · subst h; simp [sz_zero]
    · rw [sz_pos h]; simp; omega
  | k + 1, n => by
    by_cases h : n = 0
    · subst h; simp [sz_zero]
    · rw [sz_pos h, Nat.pow_succ, Nat.mul_comm, ← Nat.div_div_eq_div_mul, sz_le k (n / 256)]; omega
theorem sz_lt (k n : Nat) : n < 256 ^ k ↔ sz n ≤ k := by
  rw [← sz_le, Nat.div_eq_zero_iff]
  have : 256 ^ k ≠ 0 := Nat.pos_iff_ne_zero.1 (Nat.pow_pos (by omega))
  simp
theorem sz_8 {n : Nat} (h : n < 18446744073709551616) : sz n ≤ 8 := (sz_lt 8 n).1 h
theorem cat_len : ∀ (k n : Nat), (cat k n).length = k
  | 0, _ => rfl
  | k + 1, n => by simp [cat, cat_len k n]
theorem foldl_val : ∀ (l : List UInt8) (a : Nat), l.foldl (fun a c => a * 256 + c.toNat) a = a * 256 ^ l.length + val l
  | [], a => by simp [val]
  | c :: l, a => by
    have e : val (c :: l) = (0 * 256 + c.toNat) * 256 ^ l.length + val l := by
      show List.foldl _ _ (c :: l) = _
      rw [List.foldl_cons, foldl_val l (0 * 256 + c.toNat)]
    rw [List.foldl_cons, foldl_val l, e]
    simp only [List.length_cons, Nat.pow_succ, Nat.zero_mul, Nat.zero_add, Nat.add_mul]
    rw [Nat.mul_assoc, Nat.mul_comm 256, Nat.add_assoc]
theorem val_cons (c : UInt8) (l : List UInt8) : val (c :: l) = c.toNat * 256 ^ l.length + val l := by
  rw [val, List.foldl_cons, foldl_val]; simp
theorem val_snoc (l : List UInt8) (c : UInt8) : val (l ++ [c]) = val l * 256 + c.toNat := by
  rw [val, List.foldl_append]; rfl
theorem val_lt : ∀ l : List UInt8, val l < 256 ^ l.length
  | [] => by simp [val]
  | c :: l => by
    rw [val_cons, List.length_cons, Nat.pow_succ]
    have h1 := val_lt l
    have h2 : c.toNat < 256 := c.toNat_lt
    have h3 : c.toNat * 256 ^ l.length ≤ 255 * 256 ^ l.length := Nat.mul_le_mul_right _ (by omega)
    omega
theorem val_cat : ∀ (k n : Nat), val (cat k n) = n % 256 ^ k
  | 0, n => by simp [cat, val, Nat.mod_one]
  | k + 1, n => by
    rw [cat, val_cons, cat_len, val_cat k n]
    have : (UInt8.ofNat (n / 256 ^ k)).toNat = n / 256 ^ k % 256 := by simp [UInt8.toNat_ofNat']
    rw [this, Nat.pow_succ, Nat.mod_mul, Nat.mul_comm]
    omega
theorem val_sz (n : Nat) : val (cat (sz n) n) = n := by
  rw [val_cat, Nat.mod_eq_of_lt ((sz_lt _ _).2 (Nat.le_refl _))]
theorem cat_val : ∀ (l : List UInt8), cat l.length (val l) = l ∧ ∀ m, cat l.length (m * 256 ^ l.length + val l) = l
  | [] => ⟨rfl, fun _ => rfl⟩
  | c :: l => by
    have key : ∀ m, cat (c :: l).length (m * 256 ^ (c :: l).length + val (c :: l)) = c :: l := by
      intro m
      rw [val_cons, List.length_cons, cat]
      have hp : 0 < 256 ^ l.length := Nat.pow_pos (by omega)
      have e : m * 256 ^ (l.length + 1) + (c.toNat * 256 ^ l.length + val l) = (m * 256 + c.toNat) * 256 ^ l.length + val l := by
        rw [Nat.pow_succ, Nat.add_mul, Nat.mul_assoc, Nat.mul_comm 256, Nat.add_assoc]
      rw [e, (cat_val l).2, Nat.add_comm, Nat.add_mul_div_right _ _ hp, Nat.div_eq_of_lt (val_lt l), Nat.zero_add]
      congr 1
      apply UInt8.toNat_inj.1
      rw [UInt8.toNat_ofNat']
      have : c.toNat < 256 := c.toNat_lt
      omega
    refine ⟨?_, key⟩
    have := key 0
    simpa using this
theorem sz_val {c : UInt8} {l : List UInt8} (h : c ≠ 0) : sz (val (c :: l)) = l.length + 1 := by
  have h1 : sz (val (c :: l)) ≤ l.length + 1 := (sz_lt _ _).1 (val_lt (c :: l))
  have h2 : ¬ sz (val (c :: l)) ≤ l.length := by
    intro hh
    have := (sz_lt _ _).2 hh
    rw [val_cons] at this
    have hc : 1 ≤ c.toNat := by
      rcases Nat.eq_zero_or_pos c.toNat with h0 | h0
      · exact absurd (UInt8.toNat_inj.1 (by simpa using h0)) h
      · exact h0
    have : 1 * 256 ^ l.length ≤ c.toNat * 256 ^ l.length := Nat.mul_le_mul_right _ hc
    omega
  omega
theorem sz_val_zero (l : List UInt8) : sz (val (0 :: l)) ≤ l.length := by
  rw [val_cons]; exact (sz_lt _ _).1 (by simpa using val_lt l)
/-- A number's bytes, and how many they are ahead of them. -/
def num (n : Nat) : List UInt8 := UInt8.ofNat (sz n) :: cat (sz n) n
/-- Is it laid in the one way? -/
def firm : List UInt8 → Bool
  | [] => true
  | c :: _ => !(c == 0)
theorem num_val {l : List UInt8} (h : l.length ≤ 8) : num (val l) = UInt8.ofNat l.length :: l ↔ firm l = true := by
  cases l with
  | nil => simp [num, firm, val, sz_zero, cat]
  | cons c l =>
    by_cases hc : c = 0
    · subst hc
      simp only [firm, num]
      have hl := sz_val_zero l
      refine ⟨fun e => ?_, fun e => by simp at e⟩
      injection e with e1 e2
      have := congrArg List.length e2
      rw [cat_len, List.length_cons] at this
      omega
    · have : firm (c :: l) = true := by simpa [firm] using hc
      simp only [this, iff_true, num, sz_val hc]
      rw [show l.length + 1 = (c :: l).length from rfl, (cat_val (c :: l)).1]
theorem firm_cat (n : Nat) : firm (cat (sz n) n) = true := by
  by_cases h : n = 0
  · subst h; rw [sz_zero]; rfl
  · have e := val_sz n
    cases hl : cat (sz n) n with
    | nil => rfl
    | cons c l =>
      have hn := cat_len (sz n) n
      rw [hl] at e hn
      by_cases hc : c = 0
      · subst hc
        have := sz_val_zero l
        rw [e] at this
        simp at hn; omega
      · simpa [firm] using hc
/-- A number taken. -/
def takeN : List UInt8 → Option (Nat × List UInt8)
  | [] => none
  | c :: t => if 8 < c.toNat then none else if t.length < c.toNat then none else if firm (t.take c.toNat) then some (val (t.take c.toNat), t.drop c.toNat) else none
theorem takeN_num {n : Nat} (h : n < 18446744073709551616) (t : List UInt8) : takeN (num n ++ t) = some (n, t) := by
  have h8 := sz_8 h
  have e : (UInt8.ofNat (sz n)).toNat = sz n := by rw [UInt8.toNat_ofNat']; omega
  simp only [num, List.cons_append, takeN, e]
  have hl : (cat (sz n) n).length = sz n := cat_len _ _
  rw [if_neg (by omega), if_neg (by simp [hl]), List.take_append_of_le_length (by omega), List.take_of_length_le (by omega), if_pos (firm_cat n), val_sz, List.drop_append_of_le_length (by omega), List.drop_of_length_le (by omega)]
  rfl
theorem takeN_more {l r : List UInt8} {n : Nat} (t : List UInt8) (h : takeN l = some (n, r)) : takeN (l ++ t) = some (n, r ++ t) := by
  cases l with
  | nil => simp [takeN] at h
  | cons c l =>
    simp only [takeN, List.cons_append] at h ⊢
    split at h
    · cases h
    · split at h
      · cases h
      · rename_i h1 h2
        rw [if_neg h1, if_neg (by simp; omega), List.take_append_of_le_length (by omega)]
        split at h
        · rename_i h3
          rw [if_pos h3]
          simp only [Option.some.injEq, Prod.mk.injEq] at h
          rw [List.drop_append_of_le_length (by omega), h.1, h.2]
        · cases h
theorem takeN_lt {l r : List UInt8} {n : Nat} (h : takeN l = some (n, r)) : n < 18446744073709551616 ∧ r.length < l.length := by
  cases l with
  | nil => simp [takeN] at h
  | cons c l =>
    simp only [takeN] at h
    split at h
    · cases h
    · split at h
      · cases h
      · rename_i h1 h2
        split at h
        · simp only [Option.some.injEq, Prod.mk.injEq] at h
          obtain ⟨rfl, rfl⟩ := h
          refine ⟨?_, by simp; omega⟩
          have := val_lt (l.take c.toNat)
          have hl : (l.take c.toNat).length ≤ 8 := by rw [List.length_take]; omega
          have : 256 ^ (l.take c.toNat).length ≤ 256 ^ 8 := Nat.pow_le_pow_right (by omega) hl
          omega
        · cases h
end Go.Proofs.Ytegkclehijdbiaa.N1

set_option linter.unusedVariables false
set_option linter.unusedSimpArgs false
namespace Go.Proofs.Ytegkclehijdbiaa.N2
open Go.Proofs.Ytegkclehijdbiaa.V1 Go.Proofs.Ytegkclehijdbiaa.V2 Go.Proofs.Ytegkclehijdbiaa.V3 Go.Proofs.Ytegkclehijdbiaa.N1
def zag (n : Int) : Nat := if n < 0 then 2 * (-(n + 1)).toNat + 1 else 2 * n.toNat
def zig (n : Nat) : Int := if n % 2 = 0 then ((n / 2 : Nat) : Int) else -((n / 2 : Nat) : Int) - 1
theorem zig_zag (n : Int) : zig (zag n) = n := by
  unfold zig zag; split <;> split <;> omega
theorem zag_lt {n : Int} (h0 : -9223372036854775808 ≤ n) (h1 : n ≤ 9223372036854775807) : zag n < 18446744073709551616 := by
  unfold zag; split <;> omega
def encS (n : Int) : List UInt8 := num n.toNat
def encI (n : Int) : List UInt8 := num (zag n)
def encT (s : ByteArray) : List UInt8 := num s.size ++ s.data.toList
def encV (v : Vl) : List UInt8 := if okV v = true then (if v.k = 1 then 1 :: encI v.n else if v.k = 2 then 2 :: encT v.s else [3, UInt8.ofNat v.n.toNat]) else 1 :: encI 0
def encRow (l : List Vl) : List UInt8 := num l.length ++ l.flatMap encV
def encRows (l : List (List Vl)) : List UInt8 := num l.length ++ l.flatMap encRow

def takeS (most : Int) (l : List UInt8) : Option (Int × List UInt8) :=
  match takeN l with
  | none => none
  | some (n, r) => if most < 0 ∨ most < n then none else some (n, r)
def takeI (l : List UInt8) : Option (Int × List UInt8) :=
  match takeN l with
  | none => none
  | some (n, r) => some (zig n, r)
def takeT (most : Int) (l : List UInt8) : Option (ByteArray × List UInt8) :=
  match takeS most l with
  | none => none
  | some (n, r) => if r.length < n.toNat then none else some (⟨(r.take n.toNat).toArray⟩, r.drop n.toNat)
def takeB : List UInt8 → Option (Int × List UInt8)
  | [] => none
  | c :: t => some (c.toNat, t)
def takeV : List UInt8 → Option (Vl × List UInt8)
  | [] => none
  | c :: t => if c = 1 then (match takeI t with | none => none | some (n, r) => some (⟨1, n, ⟨#[]⟩⟩, r))
    else if c = 2 then (match takeT 200 t with | none => none | some (s, r) => some (⟨2, 0, s⟩, r))
    else if c = 3 then (match takeB t with | none => none | some (n, r) => if n ≤ 1 then some (⟨3, n, ⟨#[]⟩⟩, r) else none)
    else none
def takeVs : Nat → List UInt8 → Option (List Vl × List UInt8)
  | 0, l => some ([], l)
  | n + 1, l => match takeV l with
    | none => none
    | some (v, r) => match takeVs n r with
      | none => none
      | some (vs, r) => some (v :: vs, r)
def takeRow (most : Int) (l : List UInt8) : Option (List Vl × List UInt8) :=
  match takeS most l with
  | none => none
  | some (n, r) => takeVs n.toNat r
def takeRs (cols : Int) : Nat → List UInt8 → Option (List (List Vl) × List UInt8)
  | 0, l => some ([], l)
  | n + 1, l => match takeRow cols l with
    | none => none
    | some (v, r) => match takeRs cols n r with
      | none => none
      | some (vs, r) => some (v :: vs, r)
def takeRows (most cols : Int) (l : List UInt8) : Option (List (List Vl) × List UInt8) :=
  match takeS most l with
  | none => none
  | some (n, r) => takeRs cols n.toNat r

theorem takeS_enc {n : Nat} {most : Int} (h : (n : Int) ≤ most) (h1 : n < 18446744073709551616) (t : List UInt8) : takeS most (num n ++ t) = some ((n : Int), t) := by
  simp only [takeS, takeN_num h1]; rw [if_neg (by omega)]
theorem takeI_enc {n : Int} (h0 : -9223372036854775808 ≤ n) (h1 : n ≤ 9223372036854775807) (t : List UInt8) : takeI (encI n ++ t) = some (n, t) := by
  simp only [takeI, encI, takeN_num (zag_lt h0 h1), zig_zag]
theorem takeT_enc {s : ByteArray} {most : Int} (h : (s.size : Int) ≤ most) (h1 : s.size < 18446744073709551616) (t : List UInt8) : takeT most (encT s ++ t) = some (s, t) := by
  have hl : s.data.toList.length = s.size := Array.length_toList
  simp only [takeT, encT, List.append_assoc, takeS_enc h h1, Int.toNat_natCast]
  rw [if_neg (by rw [List.length_append, hl]; omega), List.take_append_of_le_length (by omega), List.take_of_length_le (by omega), List.drop_append_of_le_length (by omega), List.drop_of_length_le (by omega)]
  rfl
theorem emp {s : ByteArray} (h : s.toList.isEmpty = true) : s = ⟨#[]⟩ := by
  rw [ByteArray.toList_eq, List.isEmpty_iff] at h
  cases s with
  | mk d => simp at h; rw [h]
theorem takeV_enc {v : Vl} (hf : v.Fit) (h : okV v = true) (t : List UInt8) : takeV (encV v ++ t) = some (v, t) := by
  obtain ⟨k, n, s⟩ := v
  have hs := hf.s1
  dsimp only at hs
  have h' := h
  simp only [okV, Bool.or_eq_true, Bool.and_eq_true, beq_iff_eq, decide_eq_true_eq] at h
  simp only [encV, h', if_true]
  rcases h with (⟨rfl, h⟩ | ⟨⟨rfl, rfl⟩, h⟩) | ⟨⟨rfl, h⟩, h2⟩
  · rw [if_pos rfl, List.cons_append, takeV, if_pos rfl, takeI_enc hf.n0 hf.n1, emp h]
  · rw [if_neg (by decide), if_pos rfl, List.cons_append, takeV, if_neg (by decide), if_pos rfl, takeT_enc h (by omega)]
  · rw [if_neg (by decide), if_neg (by decide), List.cons_append, takeV, if_neg (by decide), if_neg (by decide), if_pos rfl, List.cons_append, takeB, emp h2]
    rcases h with rfl | rfl <;> rfl
theorem takeVs_enc : ∀ (l : List Vl), (∀ v ∈ l, v.Fit ∧ okV v = true) → ∀ t, takeVs l.length (l.flatMap encV ++ t) = some (l, t)
  | [], _, t => rfl
  | v :: l, h, t => by
    obtain ⟨hv, hl⟩ := List.forall_mem_cons.1 h
    rw [List.flatMap_cons, List.append_assoc, List.length_cons, takeVs, takeV_enc hv.1 hv.2]
    simp only [takeVs_enc l hl]
theorem takeRow_enc {l : List Vl} {most : Int} (hm : (l.length : Int) ≤ most) (hb : l.length < 18446744073709551616) (h : ∀ v ∈ l, v.Fit ∧ okV v = true) (t : List UInt8) : takeRow most (encRow l ++ t) = some (l, t) := by
  simp only [takeRow, encRow, List.append_assoc, takeS_enc hm hb, Int.toNat_natCast, takeVs_enc l h]
theorem takeRs_enc {cols : Int} : ∀ (l : List (List Vl)), (∀ r ∈ l, (r.length : Int) ≤ cols ∧ r.length < 18446744073709551616 ∧ ∀ v ∈ r, v.Fit ∧ okV v = true) → ∀ t, takeRs cols l.length (l.flatMap encRow ++ t) = some (l, t)
  | [], _, t => rfl
  | v :: l, h, t => by
    obtain ⟨hv, hl⟩ := List.forall_mem_cons.1 h
    rw [List.flatMap_cons, List.append_assoc, List.length_cons, takeRs, takeRow_enc hv.1 hv.2.1 hv.2.2]
    simp only [takeRs_enc l hl]
theorem takeRows_enc {l : List (List Vl)} {most cols : Int} (hm : (l.length : Int) ≤ most) (hb : l.length < 18446744073709551616) (h : ∀ r ∈ l, (r.length : Int) ≤ cols ∧ r.length < 18446744073709551616 ∧ ∀ v ∈ r, v.Fit ∧ okV v = true) (t : List UInt8) : takeRows most cols (encRows l ++ t) = some (l, t) := by
  simp only [takeRows, encRows, List.append_assoc, takeS_enc hm hb, Int.toNat_natCast, takeRs_enc l h]

theorem takeS_more {most : Int} {l r : List UInt8} {n : Int} (t : List UInt8) (h : takeS most l = some (n, r)) : takeS most (l ++ t) = some (n, r ++ t) := by
  unfold takeS at h ⊢
  cases e : takeN l with
  | none => rw [e] at h; cases h
  | some p =>
    obtain ⟨m, q⟩ := p
    rw [e] at h; rw [takeN_more t e]
    dsimp only at h ⊢
    split at h
    · cases h
    · rename_i h1; rw [if_neg h1]; simp only [Option.some.injEq, Prod.mk.injEq] at h ⊢; exact ⟨h.1, by rw [h.2]⟩
theorem takeI_more {l r : List UInt8} {n : Int} (t : List UInt8) (h : takeI l = some (n, r)) : takeI (l ++ t) = some (n, r ++ t) := by
  unfold takeI at h ⊢
  cases e : takeN l with
  | none => rw [e] at h; cases h
  | some p =>
    obtain ⟨m, q⟩ := p
    rw [e] at h; rw [takeN_more t e]
    simp only [Option.some.injEq, Prod.mk.injEq] at h ⊢; exact ⟨h.1, by rw [h.2]⟩
theorem takeT_more {most : Int} {l r : List UInt8} {s : ByteArray} (t : List UInt8) (h : takeT most l = some (s, r)) : takeT most (l ++ t) = some (s, r ++ t) := by
  unfold takeT at h ⊢
  cases e : takeS most l with
  | none => rw [e] at h; cases h
  | some p =>
    obtain ⟨m, q⟩ := p
    rw [e] at h; rw [takeS_more t e]
    dsimp only at h ⊢
    split at h
    · cases h
    · rename_i h1
      rw [if_neg (by simp; omega), List.take_append_of_le_length (by omega), List.drop_append_of_le_length (by omega)]
      simp only [Option.some.injEq, Prod.mk.injEq] at h ⊢; exact ⟨h.1, by rw [h.2]⟩
theorem takeV_more {l r : List UInt8} {v : Vl} (t : List UInt8) (h : takeV l = some (v, r)) : takeV (l ++ t) = some (v, r ++ t) := by
  cases l with
  | nil => cases h
  | cons c l =>
    rw [takeV] at h
    rw [List.cons_append, takeV]
    split at h
    · rename_i h1; rw [if_pos h1]
      cases e : takeI l with
      | none => rw [e] at h; cases h
      | some p => rw [e] at h; rw [takeI_more t e]; simp only [Option.some.injEq, Prod.mk.injEq] at h ⊢; exact ⟨h.1, by rw [h.2]⟩
    · rename_i h1; rw [if_neg h1]
      split at h
      · rename_i h2; rw [if_pos h2]
        cases e : takeT 200 l with
        | none => rw [e] at h; cases h
        | some p => rw [e] at h; rw [takeT_more t e]; simp only [Option.some.injEq, Prod.mk.injEq] at h ⊢; exact ⟨h.1, by rw [h.2]⟩
      · rename_i h2; rw [if_neg h2]
        split at h
        · rename_i h3; rw [if_pos h3]
          cases l with
          | nil => cases h
          | cons b l =>
            simp only [takeB, List.cons_append] at h ⊢
            split at h
            · rename_i h4; rw [if_pos h4]; simp only [Option.some.injEq, Prod.mk.injEq] at h ⊢; exact ⟨h.1, by rw [h.2]⟩
            · cases h
        · cases h
theorem takeVs_more : ∀ (n : Nat) {l r : List UInt8} {vs : List Vl} (t : List UInt8), takeVs n l = some (vs, r) → takeVs n (l ++ t) = some (vs, r ++ t)
  | 0, l, r, vs, t, h => by simp only [takeVs, Option.some.injEq, Prod.mk.injEq] at h ⊢; exact ⟨h.1, by rw [h.2]⟩
  | n + 1, l, r, vs, t, h => by
    rw [takeVs] at h ⊢
    cases e : takeV l with
    | none => rw [e] at h; cases h
    | some p =>
      obtain ⟨m, q⟩ := p
      rw [e] at h; rw [takeV_more t e]
      dsimp only at h ⊢
      cases e2 : takeVs n q with
      | none => rw [e2] at h; cases h
      | some p => rw [e2] at h; rw [takeVs_more n t e2]; simp only [Option.some.injEq, Prod.mk.injEq] at h ⊢; exact ⟨h.1, by rw [h.2]⟩
theorem takeRow_more {most : Int} {l r : List UInt8} {vs : List Vl} (t : List UInt8) (h : takeRow most l = some (vs, r)) : takeRow most (l ++ t) = some (vs, r ++ t) := by
  unfold takeRow at h ⊢
  cases e : takeS most l with
  | none => rw [e] at h; cases h
  | some p => rw [e] at h; rw [takeS_more t e]; exact takeVs_more _ t h
theorem takeRs_more {cols : Int} : ∀ (n : Nat) {l r : List UInt8} {vs : List (List Vl)} (t : List UInt8), takeRs cols n l = some (vs, r) → takeRs cols n (l ++ t) = some (vs, r ++ t)
  | 0, l, r, vs, t, h => by simp only [takeRs, Option.some.injEq, Prod.mk.injEq] at h ⊢; exact ⟨h.1, by rw [h.2]⟩
  | n + 1, l, r, vs, t, h => by
    rw [takeRs] at h ⊢
    cases e : takeRow cols l with
    | none => rw [e] at h; cases h
    | some p =>
      obtain ⟨m, q⟩ := p
      rw [e] at h; rw [takeRow_more t e]
      dsimp only at h ⊢
      cases e2 : takeRs cols n q with
      | none => rw [e2] at h; cases h
      | some p => rw [e2] at h; rw [takeRs_more n t e2]; simp only [Option.some.injEq, Prod.mk.injEq] at h ⊢; exact ⟨h.1, by rw [h.2]⟩
theorem takeRows_more {most cols : Int} {l r : List UInt8} {vs : List (List Vl)} (t : List UInt8) (h : takeRows most cols l = some (vs, r)) : takeRows most cols (l ++ t) = some (vs, r ++ t) := by
  unfold takeRows at h ⊢
  cases e : takeS most l with
  | none => rw [e] at h; cases h
  | some p => rw [e] at h; rw [takeS_more t e]; exact takeRs_more _ t h
end Go.Proofs.Ytegkclehijdbiaa.N2

set_option linter.unusedVariables false
set_option linter.unusedSimpArgs false
namespace Go.Proofs.Ytegkclehijdbiaa.N3
open Go.Proofs.Ytegkclehijdbiaa.N1 Go.Proofs.Ytegkclehijdbiaa.N2
theorem or8 (a : Nat) (c : UInt8) (h : a < 72057594037927936) : bits .or .u64 (((a * 256 : Nat)) : Int) (c.toNat : Int) = ((a * 256 + c.toNat : Nat) : Int) := by
  have hc : c.toNat < 256 := c.toNat_lt
  rw [bits_or_u64_nat _ _ (by omega) (by omega)]
  congr 1
  have := Nat.shiftLeft_add_eq_or_of_lt (i := 8) (b := c.toNat) (by omega) a
  rw [Nat.shiftLeft_eq] at this
  exact this.symm
theorem and1 (a : Nat) (h : a < 18446744073709551616) : bits .and .u64 (a : Int) 1 = ((a % 2 : Nat) : Int) := by
  have := bits_and_u64_nat a 1 h (by omega)
  rw [Nat.and_one_is_mod] at this
  exact_mod_cast this
theorem xor0 (x : Int) (h0 : 0 ≤ x) (h1 : x ≤ 9223372036854775807) : bits .xor .i64 x 0 = x := by
  obtain ⟨n, rfl⟩ := Int.eq_ofNat_of_zero_le h0
  show IntKind.i64.wrap ((BitVec.ofInt 64 (n : Int) ^^^ BitVec.ofInt 64 0).toNat : Int) = _
  have e : BitVec.ofInt 64 0 = 0#64 := by decide
  rw [e, BitVec.xor_zero, BitVec.ofInt_natCast, BitVec.toNat_ofNat, Nat.mod_eq_of_lt (by omega)]
  simp only [IntKind.wrap_i64, RowKit.wrap64]
  omega
theorem xor1 (x : Int) (h0 : 0 ≤ x) (h1 : x ≤ 9223372036854775807) : bits .xor .i64 x (-1) = -x - 1 := by
  obtain ⟨n, rfl⟩ := Int.eq_ofNat_of_zero_le h0
  show IntKind.i64.wrap ((BitVec.ofInt 64 (n : Int) ^^^ BitVec.ofInt 64 (-1)).toNat : Int) = _
  have e : BitVec.ofInt 64 (-1) = BitVec.allOnes 64 := by decide
  rw [e, BitVec.xor_allOnes, BitVec.toNat_not, BitVec.ofInt_natCast, BitVec.toNat_ofNat, Nat.mod_eq_of_lt (by omega)]
  simp only [IntKind.wrap_i64, RowKit.wrap64]
  omega
/-- The signed number, as the program reckons it. -/
theorem zig_bits (n : Nat) (h : n < 18446744073709551616) : bits .xor .i64 ((n / 2 : Nat) : Int) (-((n % 2 : Nat) : Int)) = zig n := by
  unfold zig
  rcases Nat.mod_two_eq_zero_or_one n with h2 | h2
  · rw [h2, if_pos rfl]; exact xor0 _ (by omega) (by omega)
  · rw [h2, if_neg (by decide)]; exact xor1 _ (by omega) (by omega)
/-- What a method answers, and what is to come then. -/
def res {α : Type} (f : List UInt8 → Option (α × List UInt8)) (d : α) (st : Option (List UInt8)) : α × Option (List UInt8) :=
  match st.bind f with
  | none => (d, none)
  | some (v, r) => (v, some r)
theorem res_none {α : Type} (f : List UInt8 → Option (α × List UInt8)) (d : α) : res f d none = (d, none) := rfl
theorem res_no {α : Type} {f : List UInt8 → Option (α × List UInt8)} {d : α} {l : List UInt8} (h : f l = none) : res f d (some l) = (d, none) := by simp [res, h]
theorem res_yes {α : Type} {f : List UInt8 → Option (α × List UInt8)} {d : α} {l r : List UInt8} {v : α} (h : f l = some (v, r)) : res f d (some l) = (v, some r) := by simp [res, h]
/-- A number, as an Int. -/
def takeM (l : List UInt8) : Option (Int × List UInt8) := (takeN l).map fun p => ((p.1 : Int), p.2)
end Go.Proofs.Ytegkclehijdbiaa.N3
