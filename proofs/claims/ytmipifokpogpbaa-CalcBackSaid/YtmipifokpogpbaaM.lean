/- Numbers as lists of decimal digits, the lowest first: plain facts, no program in sight. -/
import Derived.Below
namespace Go.Proofs.Ytmipifokpogpbaa.M

/-- What digits are together. -/
def val : List Int → Int
  | [] => 0
  | d :: l => d + 10 * val l
/-- All are digits. -/
def Dg (l : List Int) : Prop := ∀ d ∈ l, 0 ≤ d ∧ d ≤ 9
/-- The highest isn't nought. -/
def Canon (l : List Int) : Prop := ∀ h : l ≠ [], l.getLast h ≠ 0

theorem Dg.nil : Dg [] := fun _ h => by cases h
theorem Dg.cons {d : Int} {l : List Int} (h : Dg (d :: l)) : (0 ≤ d ∧ d ≤ 9) ∧ Dg l := ⟨h d List.mem_cons_self, fun x hx => h x (List.mem_cons_of_mem _ hx)⟩
theorem Dg.snoc {l : List Int} (h : Dg l) {d : Int} (h0 : 0 ≤ d) (h9 : d ≤ 9) : Dg (l ++ [d]) := by
  intro x hx
  rcases List.mem_append.1 hx with hx | hx
  · exact h x hx
  · rw [List.mem_singleton.1 hx]; exact ⟨h0, h9⟩
theorem Dg.take {l : List Int} (h : Dg l) (i : Nat) : Dg (l.take i) := fun x hx => h x (List.mem_of_mem_take hx)
theorem Dg.get {l : List Int} (h : Dg l) (i : Nat) : 0 ≤ l.getD i 0 ∧ l.getD i 0 ≤ 9 := by
  rcases Nat.lt_or_ge i l.length with hi | hi
  · rw [List.getD_eq_getElem?_getD, List.getElem?_eq_getElem hi]; exact h _ (List.getElem_mem hi)
  · rw [List.getD_eq_getElem?_getD, List.getElem?_eq_none hi]; simp

theorem val_append (a b : List Int) : val (a ++ b) = val a + 10 ^ a.length * val b := by
  induction a with
  | nil => simp [val]
  | cons d l ih => simp only [List.cons_append, val, ih, List.length_cons, Int.pow_succ]; grind
theorem val_snoc (l : List Int) (d : Int) : val (l ++ [d]) = val l + 10 ^ l.length * d := by
  rw [val_append]; simp [val]
theorem pow_pos (n : Nat) : (0 : Int) < 10 ^ n := Int.pow_pos (by decide)
theorem val_nonneg {l : List Int} (h : Dg l) : 0 ≤ val l := by
  induction l with
  | nil => simp [val]
  | cons d l ih => have := ih h.cons.2; have := h.cons.1; simp only [val]; omega
theorem val_lt {l : List Int} (h : Dg l) : val l < 10 ^ l.length := by
  induction l with
  | nil => simp [val]
  | cons d l ih => have := ih h.cons.2; have := h.cons.1; simp only [val, List.length_cons, Int.pow_succ]; omega
theorem val_take_succ (l : List Int) (i : Nat) : val (l.take (i + 1)) = val (l.take i) + 10 ^ i * l.getD i 0 := by
  rcases Nat.lt_or_ge i l.length with hi | hi
  · rw [List.take_succ_eq_append_getElem hi, val_snoc, List.length_take, Nat.min_eq_left (by omega), List.getD_eq_getElem?_getD, List.getElem?_eq_getElem hi]; rfl
  · rw [List.take_of_length_le (by omega), List.take_of_length_le (by omega), List.getD_eq_getElem?_getD, List.getElem?_eq_none hi]; simp
/-- A list of digits whose highest isn't nought: its length tells how great it is. -/
theorem Canon.le {l : List Int} (h : Dg l) (hc : Canon l) (hn : l ≠ []) : (10 : Int) ^ (l.length - 1) ≤ val l := by
  have e : l.dropLast ++ [l.getLast hn] = l := List.dropLast_concat_getLast hn
  have h1 : Dg l.dropLast := fun x hx => h x (List.dropLast_subset l hx)
  have hv : val l = val l.dropLast + 10 ^ (l.length - 1) * l.getLast hn := by
    conv => lhs; rw [← e]
    rw [val_snoc, List.length_dropLast]
  have h2 := h _ (List.getLast_mem hn)
  have h3 := hc hn
  have h4 := val_nonneg h1
  have h5 : (10 : Int) ^ (l.length - 1) * 1 ≤ 10 ^ (l.length - 1) * l.getLast hn := Int.mul_le_mul_of_nonneg_left (by omega) (Int.le_of_lt (pow_pos _))
  omega
theorem Canon.zero {l : List Int} (h : Dg l) (hc : Canon l) (hv : val l = 0) : l = [] := by
  rcases l with _ | ⟨d, l⟩
  · rfl
  · have := Canon.le h hc (by simp)
    have := pow_pos ((d :: l).length - 1)
    omega
theorem Canon.nil : Canon [] := fun h => absurd rfl h
theorem pow_le {m n : Nat} (h : m ≤ n) : (10 : Int) ^ m ≤ 10 ^ n := by
  obtain ⟨k, rfl⟩ := Nat.exists_eq_add_of_le h
  rw [Int.pow_add]
  have := Int.mul_le_mul_of_nonneg_left (show (1 : Int) ≤ 10 ^ k by have := pow_pos k; omega) (Int.le_of_lt (pow_pos m))
  omega
theorem Canon.len {l : List Int} (h : Dg l) (hc : Canon l) {n : Nat} (hv : val l < 10 ^ n) : l.length ≤ n := by
  rcases Nat.lt_or_ge n l.length with hn | hn
  · have h1 := Canon.le h hc (by rintro rfl; simp at hn)
    have h2 := pow_le (show n ≤ l.length - 1 by omega)
    omega
  · exact hn

/-- A number: its sign, its digits. -/
structure Nm (neg : Bool) (l : List Int) (x : Int) : Prop where
  dg : Dg l
  can : Canon l
  eq : x = if neg then -val l else val l
  sg : neg = true → l ≠ []
theorem Nm.abs {neg : Bool} {l : List Int} {x : Int} (h : Nm neg l x) : val l = if x < 0 then -x else x := by
  have h0 := val_nonneg h.dg
  have := h.eq
  cases neg <;> simp at this <;> split <;> omega
theorem Nm.neg {neg : Bool} {l : List Int} {x : Int} (h : Nm neg l x) : neg = decide (x < 0) := by
  have h0 := val_nonneg h.dg
  have he := h.eq
  cases neg with
  | false => simp at he; simp; omega
  | true =>
    have h1 : val l ≠ 0 := fun e => h.sg rfl (Canon.zero h.dg h.can e)
    simp at he; simp; omega
theorem Nm.empty {neg : Bool} {l : List Int} {x : Int} (h : Nm neg l x) : l = [] ↔ x = 0 := by
  have := h.abs
  constructor
  · rintro rfl; simp [val] at this; split at this <;> omega
  · intro e; exact Canon.zero h.dg h.can (by rw [this, e]; simp)
theorem Nm.len {neg : Bool} {l : List Int} {x : Int} (h : Nm neg l x) {n : Nat} (h0 : -10 ^ n < x) (h1 : x < 10 ^ n) : l.length ≤ n :=
  Canon.len h.dg h.can (by rw [h.abs]; split <;> omega)
/-- The digits of a number are what they are. -/
theorem can_tail {d : Int} {l : List Int} (h : Canon (d :: l)) : Canon l := fun hn => by
  have := h (by simp)
  rwa [List.getLast_cons hn] at this
theorem uniq : ∀ {a b : List Int}, Dg a → Dg b → Canon a → Canon b → val a = val b → a = b
  | [], b, _, hb, _, cb, h => (Canon.zero hb cb (by rw [← h]; rfl)).symm
  | d :: l, [], ha, _, ca, _, h => Canon.zero ha ca (by rw [h]; rfl)
  | d :: l, e :: m, ha, hb, ca, cb, h => by
    simp only [val] at h
    have h1 := ha.cons.1
    have h2 := hb.cons.1
    have h3 : d = e := by omega
    have h4 : val l = val m := by omega
    rw [h3, uniq ha.cons.2 hb.cons.2 (can_tail ca) (can_tail cb) h4]
/-- Comparison by length, then from the highest digit down. -/
theorem less_len {a b : List Int} (ha : Dg a) (hb : Dg b) (cb : Canon b) (h : a.length < b.length) : val a < val b := by
  have h1 := val_lt ha
  have h2 := Canon.le hb cb (by rintro rfl; simp at h)
  have h3 := pow_le (show a.length ≤ b.length - 1 by omega)
  omega
theorem drop_val (l : List Int) (i : Nat) : val l = val (l.take i) + 10 ^ i * val (l.drop i) ∨ l.length ≤ i := by
  rcases Nat.lt_or_ge i l.length with hi | hi
  · left
    conv => lhs; rw [← List.take_append_drop i l]
    rw [val_append, List.length_take, Nat.min_eq_left (by omega)]
  · exact .inr hi
theorem less_at {a b : List Int} (ha : Dg a) (hb : Dg b) (i : Nat) (hi : i < a.length) (hl : a.length = b.length) (he : a.drop (i + 1) = b.drop (i + 1)) (h : a.getD i 0 < b.getD i 0) : val a < val b := by
  have e1 : val a = val (a.take (i + 1)) + 10 ^ (i + 1) * val (a.drop (i + 1)) := by
    conv => lhs; rw [← List.take_append_drop (i + 1) a]
    rw [val_append, List.length_take, Nat.min_eq_left (by omega)]
  have e2 : val b = val (b.take (i + 1)) + 10 ^ (i + 1) * val (b.drop (i + 1)) := by
    conv => lhs; rw [← List.take_append_drop (i + 1) b]
    rw [val_append, List.length_take, Nat.min_eq_left (by omega)]
  rw [val_take_succ] at e1 e2
  rw [he] at e1
  have h1 := val_lt (ha.take i)
  have h2 := val_nonneg (hb.take i)
  rw [List.length_take, Nat.min_eq_left (by omega)] at h1
  have h3 : (10 : Int) ^ i * (a.getD i 0 + 1) ≤ 10 ^ i * b.getD i 0 := Int.mul_le_mul_of_nonneg_left (by omega) (Int.le_of_lt (pow_pos _))
  rw [Int.mul_add] at h3
  omega
/-- Digits without the noughts above. -/
def trimN (l : List Int) : Nat → Nat
  | 0 => 0
  | n + 1 => if l.getD n 0 = 0 then trimN l n else n + 1
theorem trimN_le (l : List Int) (n : Nat) : trimN l n ≤ n := by
  induction n with
  | zero => exact Nat.le_refl _
  | succ n ih => unfold trimN; split <;> omega
theorem trimN_val (l : List Int) (n : Nat) : val (l.take (trimN l n)) = val (l.take n) := by
  induction n with
  | zero => rfl
  | succ n ih =>
    unfold trimN
    split
    · rename_i h; rw [ih, val_take_succ, h]; simp
    · rfl
theorem trimN_can (l : List Int) (n : Nat) (hn : n ≤ l.length) : Canon (l.take (trimN l n)) := by
  induction n with
  | zero => exact fun h => absurd (by simp [trimN]) h
  | succ n ih =>
    unfold trimN
    split
    · exact ih (by omega)
    · rename_i h
      intro hne
      have e : (l.take (n + 1)).getLast hne = l.getD n 0 := by
        rw [List.getLast_eq_getElem, List.getD_eq_getElem?_getD, List.getElem?_eq_getElem (by omega)]
        simp only [List.length_take, Option.getD_some]
        rw [List.getElem_take]
        congr 1
        omega
      rw [e]; exact h

theorem val_set (l : List Int) (j : Nat) (hj : j < l.length) (v : Int) : val (l.set j v) = val l + 10 ^ j * (v - l.getD j 0) := by
  induction l generalizing j with
  | nil => simp at hj
  | cons d l ih =>
    cases j with
    | zero => simp [val]; omega
    | succ j =>
      have hj' : j < l.length := by simpa using hj
      simp only [List.set_cons_succ, val, ih j hj', List.getD_cons_succ, Int.pow_succ]
      grind
theorem val_replicate (n : Nat) : val (List.replicate n 0) = 0 := by
  induction n with
  | zero => rfl
  | succ n ih => simp [List.replicate_succ, val, ih]
theorem getD_set (l : List Int) (j k : Nat) (v : Int) (hj : j < l.length) : (l.set j v).getD k 0 = if j = k then v else l.getD k 0 := by
  rw [List.getD_eq_getElem?_getD, List.getD_eq_getElem?_getD, List.getElem?_set]
  by_cases h : j = k
  · rw [if_pos h, if_pos h, if_pos hj]; rfl
  · rw [if_neg h, if_neg h]
theorem getD_replicate (n k : Nat) : (List.replicate n (0 : Int)).getD k 0 = 0 := by
  rw [List.getD_eq_getElem?_getD, List.getElem?_replicate]; split <;> rfl

/-- The product, row by row: what the cells hold in row i, behind k of its columns. -/
structure Row (a b os : List Int) (i k : Nat) : Prop where
  v : val os = val (a.take i) * val b + 10 ^ i * a.getD i 0 * val (b.take k)
  lo : ∀ j, 0 ≤ os.getD j 0
  hi : ∀ j, os.getD j 0 ≤ 81 * (i + 1)
  far : ∀ j, i + k ≤ j → os.getD j 0 ≤ 81 * i
theorem Row.start (a b : List Int) (n : Nat) : Row a b (List.replicate n 0) 0 0 := by
  refine ⟨?_, fun j => ?_, fun j => ?_, fun j _ => ?_⟩
  · rw [val_replicate]; simp [val]
  all_goals rw [getD_replicate]; omega
theorem mul9 {x y : Int} (h : 0 ≤ x ∧ x ≤ 9) (h' : 0 ≤ y ∧ y ≤ 9) : 0 ≤ x * y ∧ x * y ≤ 81 := by
  refine ⟨Int.mul_nonneg h.1 h'.1, ?_⟩
  have := Int.mul_le_mul h.2 h'.2 h'.1 (by decide)
  omega
theorem Row.step {a b os : List Int} {i k : Nat} (da : Dg a) (db : Dg b) (h : Row a b os i k) (hj : i + k < os.length) : Row a b (os.set (i + k) (os.getD (i + k) 0 + a.getD i 0 * b.getD k 0)) i (k + 1) := by
  have h9 := mul9 (da.get i) (db.get k)
  have hf := h.far (i + k) (Nat.le_refl _)
  refine ⟨?_, fun j => ?_, fun j => ?_, fun j hij => ?_⟩
  · rw [val_set _ _ hj, h.v, val_take_succ, Int.pow_add]; grind
  · rw [getD_set _ _ _ _ hj]; have := h.lo j; have := h.lo (i + k); split <;> omega
  · rw [getD_set _ _ _ _ hj]; have := h.hi j; split <;> omega
  · rw [getD_set _ _ _ _ hj, if_neg (by omega)]; exact h.far j (by omega)
theorem Row.next {a b os : List Int} {i : Nat} (h : Row a b os i b.length) : Row a b os (i + 1) 0 := by
  refine ⟨?_, h.lo, fun j => ?_, fun j _ => ?_⟩
  · rw [h.v, val_take_succ, List.take_of_length_le (Nat.le_refl _)]; simp [val]; grind
  · have := h.hi j; omega
  · have := h.hi j; omega
/-- The carries. -/
structure Car (V : Int) (os : List Int) (t : Nat) : Prop where
  v : val os = V
  lo : ∀ j, 0 ≤ os.getD j 0
  dg : ∀ j, j < t → os.getD j 0 ≤ 9
  at_ : os.getD t 0 ≤ 162000162
  hi : ∀ j, t < j → os.getD j 0 ≤ 81000081
theorem Row.car {a b os : List Int} {i k : Nat} (h : Row a b os i k) (hi : i ≤ 1000000) : Car (val os) os 0 := by
  refine ⟨rfl, h.lo, fun j hj => absurd hj (Nat.not_lt_zero _), ?_, fun j _ => ?_⟩
  · have := h.hi 0; omega
  · have := h.hi j; omega
theorem Car.step {V : Int} {os : List Int} {t : Nat} (h : Car V os t) (ht : t + 1 < os.length) : Car V ((os.set (t + 1) (os.getD (t + 1) 0 + os.getD t 0 / 10)).set t ((os.set (t + 1) (os.getD (t + 1) 0 + os.getD t 0 / 10)).getD t 0 % 10)) (t + 1) := by
  have l1 : t < (os.set (t + 1) (os.getD (t + 1) 0 + os.getD t 0 / 10)).length := by simp; omega
  have e1 : (os.set (t + 1) (os.getD (t + 1) 0 + os.getD t 0 / 10)).getD t 0 = os.getD t 0 := by rw [getD_set _ _ _ _ ht, if_neg (by omega)]
  have h0 := h.lo t
  have h1 := h.lo (t + 1)
  have h2 := h.at_
  have h3 := h.hi (t + 1) (by omega)
  refine ⟨?_, fun j => ?_, fun j hj => ?_, ?_, fun j hj => ?_⟩
  · rw [val_set _ _ l1, e1, val_set _ _ ht, h.v, Int.pow_succ]
    have : os.getD t 0 = os.getD t 0 % 10 + 10 * (os.getD t 0 / 10) := by omega
    generalize os.getD t 0 % 10 = r at *
    generalize os.getD t 0 / 10 = q at *
    grind
  · rw [getD_set _ _ _ _ l1, e1, getD_set _ _ _ _ ht]; have := h.lo j; split <;> (try split) <;> omega
  · rw [getD_set _ _ _ _ l1, e1, getD_set _ _ _ _ ht]
    by_cases e : t = j
    · rw [if_pos e]; omega
    · rw [if_neg e, if_neg (by omega)]; exact h.dg j (by omega)
  · rw [getD_set _ _ _ _ l1, if_neg (by omega), getD_set _ _ _ _ ht, if_pos rfl]; omega
  · rw [getD_set _ _ _ _ l1, if_neg (by omega), getD_set _ _ _ _ ht, if_neg (by omega)]; exact h.hi j (by omega)
theorem Car.done {V : Int} {os : List Int} {t : Nat} (h : Car V os t) (hl : os.length = t + 1) (hV : V < 10 ^ t) : Dg os := by
  have e : val os = val (os.take t) + 10 ^ t * os.getD t 0 := by
    rw [← val_take_succ, List.take_of_length_le (by omega)]
  have dt : Dg (os.take t) := by
    intro x hx
    obtain ⟨j, hj, rfl⟩ := List.getElem_of_mem hx
    rw [List.length_take] at hj
    rw [List.getElem_take]
    have a := h.lo j
    have b := h.dg j (by omega)
    rw [List.getD_eq_getElem?_getD, List.getElem?_eq_getElem (by omega)] at a b
    exact ⟨a, b⟩
  have h1 := val_nonneg dt
  have h2 := h.lo t
  have h3 : os.getD t 0 = 0 := by
    rcases Int.lt_or_le 0 (os.getD t 0) with h4 | h4
    · have := Int.mul_le_mul_of_nonneg_left (show (1 : Int) ≤ os.getD t 0 by omega) (Int.le_of_lt (pow_pos t))
      rw [h.v] at e
      omega
    · omega
  intro x hx
  obtain ⟨j, hj, rfl⟩ := List.getElem_of_mem hx
  rcases Nat.lt_or_ge j t with h4 | h4
  · exact dt _ (List.mem_iff_getElem.2 ⟨j, by rw [List.length_take]; omega, List.getElem_take⟩)
  · have : j = t := by omega
    subst this
    rw [List.getD_eq_getElem?_getD, List.getElem?_eq_getElem hj] at h3
    have h5 : os[j] = 0 := h3
    omega
theorem mul_lt {a b : List Int} (da : Dg a) (db : Dg b) : val a * val b < 10 ^ (a.length + b.length) := by
  have h1 := val_lt da
  have h2 := val_lt db
  have h3 := val_nonneg da
  have h4 := val_nonneg db
  rw [Int.pow_add]
  have h5 := Int.mul_le_mul_of_nonneg_right (show val a ≤ 10 ^ a.length - 1 by omega) h4
  have h6 := Int.mul_lt_mul_of_pos_left h2 (pow_pos a.length)
  have h7 : ((10 : Int) ^ a.length - 1) * val b = 10 ^ a.length * val b - val b := by grind
  omega
#print axioms mul_lt
end Go.Proofs.Ytmipifokpogpbaa.M
