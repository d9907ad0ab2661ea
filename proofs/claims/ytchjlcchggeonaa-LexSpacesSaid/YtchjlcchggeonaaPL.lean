import Derived.Test.YtchjlcchggeonaaPLexx13
set_option linter.unusedVariables false
set_option linter.unusedSimpArgs false
namespace Go.Proofs.Ytchjlcchggeonaa.PL
open Go.RowKit Go.Proofs.Ytchjlcchggeonaa.PLex Go.Proofs.YtchjlcchggeonaaW.PrintWords Go.Proofs.YtchjlcchggeonaaW.PrintLast

/-- From some number of rounds on, the answer. -/
def Ev {α : Type} (f : Nat → Option α) (r : α) : Prop := ∃ K, ∀ k, K ≤ k → f k = some r
theorem Ev.always {α : Type} {f : Nat → Option α} {r : α} (h : ∀ k, f k = some r) : Ev f r := ⟨0, fun k _ => h k⟩
theorem Ev.succ {α : Type} {f g : Nat → Option α} {r : α} (h : ∀ k, f (k + 1) = g k) (hg : Ev g r) : Ev f r := by
  obtain ⟨K, hK⟩ := hg
  refine ⟨K + 1, fun k hk => ?_⟩
  obtain ⟨m, rfl⟩ : ∃ m, k = m + 1 := ⟨k - 1, by omega⟩
  rw [h, hK m (by omega)]
theorem Ev.congr {α : Type} {f g : Nat → Option α} {r : α} (h : ∀ k, f k = g k) (hg : Ev g r) : Ev f r := by
  obtain ⟨K, hK⟩ := hg
  exact ⟨K, fun k hk => (h k).trans (hK k hk)⟩
theorem Ev.bind {α β : Type} {f : Nat → Option α} {g : Nat → α → Option β} {a : α} {r : β} (hf : Ev f a) (hg : Ev (fun k => g k a) r) : Ev (fun k => (f k).bind (g k)) r := by
  obtain ⟨K, hK⟩ := hf
  obtain ⟨L, hL⟩ := hg
  refine ⟨max K L, fun k hk => ?_⟩
  show (f k).bind (g k) = some r
  rw [hK k (by omega)]
  exact hL k (by omega)

/-- A text of bytes. -/
abbrev S (l : List UInt8) : ByteArray := ⟨l.toArray⟩
theorem S_size (l : List UInt8) : (S l).size = l.length := by simp [ByteArray.size]
theorem S_eq (s : ByteArray) : S s.data.toList = s := by cases s; simp [S]
theorem S_list (l : List UInt8) : (S l).toList = l := by rw [ByteArray.toList_eq]
theorem bt_S (l : List UInt8) (k : Nat) (h : k < l.length) : bt (S l) (k : Int) = (l[k].toNat : Int) := by
  unfold bt
  rw [dif_pos (by rw [Int.toNat_natCast, S_size]; exact h)]
  simp only [Int.toNat_natCast]
  rfl
theorem bt_mid (p t : List UInt8) (c : UInt8) : bt (S (p ++ c :: t)) (p.length : Int) = (c.toNat : Int) := by
  rw [bt_S _ _ (by simp)]; simp
theorem S_extract (l : List UInt8) (a b : Nat) : (S l).extract a b = S ((l.take b).drop a) := by
  have : ((S l).extract a b).data = (S ((l.take b).drop a)).data := by
    rw [ByteArray.data_extract]
    apply Array.ext'
    simp [List.extract_eq_take_drop, List.drop_take]
  cases h1 : (S l).extract a b; cases h2 : S ((l.take b).drop a)
  rw [h1, h2] at this; simpa using this
theorem S_drop (p l : List UInt8) : (S (p ++ l)).extract ((p.length : Nat) : Int).toNat (S (p ++ l)).size = S l := by
  rw [S_extract, S_size, Int.toNat_natCast, List.take_length]; simp
theorem S_dropL (p l : List UInt8) : (S (p ++ l)).extract ((p.length : Nat) : Int).toNat (p ++ l).length = S l := by
  have := S_drop p l
  rwa [S_size] at this
theorem S_drop' (l : List UInt8) (a : Nat) : (S l).extract ((a : Nat) : Int).toNat (S l).size = S (l.drop a) := by
  rw [S_extract, S_size, Int.toNat_natCast, List.take_length]
theorem S_take (l : List UInt8) (a : Nat) : (S l).extract 0 ((a : Nat) : Int).toNat = S (l.take a) := by
  rw [S_extract, Int.toNat_natCast, List.drop_zero]
theorem wrap_in {n : Int} (h0 : 0 ≤ n) (h1 : n ≤ 9223372036854775807) : wrap64 n = n := by unfold wrap64; omega

def partN (c : Int) : Bool := decide (97 ≤ c ∧ c ≤ 122) || decide (65 ≤ c ∧ c ≤ 90) || decide (48 ≤ c ∧ c ≤ 57) || (c == 95)
def partC (c : UInt8) : Bool := partN c.toNat
theorem part_f (c : Int) : lex_part.f c = some (partN c) := by
  unfold lex_part.f partN
  by_cases h1 : (97 : Int) ≤ c <;> by_cases h2 : c ≤ 122 <;> by_cases h3 : (65 : Int) ≤ c <;> by_cases h4 : c ≤ 90 <;> by_cases h5 : (48 : Int) ≤ c <;> by_cases h6 : c ≤ 57 <;> simp [h1, h2, h3, h4, h5, h6]
theorem idx_none {c : UInt8} : ∀ {l : List UInt8}, (∀ x ∈ l, x ≠ c) → Lib.indexByte l c = -1
  | [], _ => rfl
  | b :: l, h => by
    have h1 : (b == c) = false := by simpa using h b (by simp)
    have h2 := idx_none (c := c) (l := l) (fun x hx => h x (by simp [hx]))
    unfold Lib.indexByte
    simp [h1, h2]
theorem idx_some {c : UInt8} (v : List UInt8) : ∀ {u : List UInt8}, (∀ x ∈ u, x ≠ c) → Lib.indexByte (u ++ c :: v) c = u.length
  | [], _ => by unfold Lib.indexByte; simp
  | b :: u, h => by
    have h1 : (b == c) = false := by simpa using h b (by simp)
    have h2 := idx_some (c := c) v (u := u) (fun x hx => h x (by simp [hx]))
    rw [List.cons_append]
    unfold Lib.indexByte
    have h3 : (Lib.indexByte (u ++ c :: v) c == -1) = false := by rw [h2]; simp <;> omega
    rw [if_neg (by simp [h1]), if_neg (by simp [h3]), h2]
    simp
theorem to8 (c : UInt8) : ((c.toNat : Int)).toNat.toUInt8 = c := by simp
def isB (c : UInt8) : Bool := c == 32 || c == 9 || c == 10
theorem idx_blank (c : UInt8) : strings_IndexByte.f (⟨#[32, 9, 10]⟩ : ByteArray) (c.toNat : Int) = some (if c = 32 then 0 else if c = 9 then 1 else if c = 10 then 2 else -1) := by
  unfold strings_IndexByte.f
  rw [to8]
  congr 1
  show Lib.indexByte [32, 9, 10] c = _
  unfold Lib.indexByte Lib.indexByte Lib.indexByte Lib.indexByte
  by_cases h1 : c = 32
  · subst h1; rfl
  · by_cases h2 : c = 9
    · subst h2; rfl
    · by_cases h3 : c = 10
      · subst h3; rfl
      · have e1 : ((32 : UInt8) == c) = false := by simpa using fun h => h1 h.symm
        have e2 : ((9 : UInt8) == c) = false := by simpa using fun h => h2 h.symm
        have e3 : ((10 : UInt8) == c) = false := by simpa using fun h => h3 h.symm
        simp [e1, e2, e3, h1, h2, h3]
theorem prefix_f (l u : List UInt8) : strings_HasPrefix.f (S l) (S u) = some (u.isPrefixOf l) := by
  unfold strings_HasPrefix.f stringslite_HasPrefix.f
  simp only [S_size]
  by_cases h : (l.length : Int) ≥ (u.length : Int)
  · have h' : u.length ≤ l.length := by omega
    rw [if_pos h, if_pos (by omega), if_pos (by omega), S_take, S_list, S_list]
    simp only [Option.bind_some, Option.some.injEq]
    rw [Bool.eq_iff_iff, beq_iff_eq, List.isPrefixOf_iff_prefix, List.prefix_iff_eq_take]
    exact ⟨fun e => e.symm, fun e => e.symm⟩
  · rw [if_neg h]
    simp only [Option.bind_some, Option.some.injEq]
    symm
    rw [Bool.eq_false_iff]
    intro hp
    have := (List.isPrefixOf_iff_prefix.1 hp).length_le
    omega

/-- So many first bytes are blanks and remarks, and no more. -/
inductive Bl : List UInt8 → Nat → Prop
  | nil : Bl [] 0
  | b (c : UInt8) (t : List UInt8) (n : Nat) : isB c = true → Bl t n → Bl (c :: t) (n + 1)
  | rem (u v : List UInt8) (n : Nat) : (∀ x ∈ u, x ≠ 10) → [47, 47].isPrefixOf u = true → Bl (10 :: v) n → Bl (u ++ 10 :: v) (u.length + n)
  | remEnd (u : List UInt8) : (∀ x ∈ u, x ≠ 10) → [47, 47].isPrefixOf u = true → Bl u u.length
  | stop (c : UInt8) (t : List UInt8) : isB c = false → [47, 47].isPrefixOf (c :: t) = false → Bl (c :: t) 0
theorem Bl.le {l : List UInt8} {n : Nat} (h : Bl l n) : n ≤ l.length := by
  induction h with
  | nil => simp
  | b c t n _ _ ih => simp; omega
  | rem u v n _ _ _ ih => simp at ih ⊢; omega
  | remEnd u _ _ => exact Nat.le_refl _
  | stop => simp
theorem split10 : ∀ l : List UInt8, (∀ x ∈ l, x ≠ 10) ∨ ∃ u v, l = u ++ 10 :: v ∧ ∀ x ∈ u, x ≠ 10
  | [] => .inl (by simp)
  | c :: l => by
    by_cases h : c = 10
    · subst h; exact .inr ⟨[], l, rfl, by simp⟩
    · rcases split10 l with h1 | ⟨u, v, rfl, h1⟩
      · exact .inl (by simp; exact ⟨h, by simpa using h1⟩)
      · exact .inr ⟨c :: u, v, rfl, by simp; exact ⟨h, by simpa using h1⟩⟩
theorem pre2 {l : List UInt8} (h : [47, 47].isPrefixOf l = true) : ∃ t, l = 47 :: 47 :: t := by
  obtain ⟨t, rfl⟩ := List.isPrefixOf_iff_prefix.1 h
  exact ⟨t, rfl⟩
theorem Bl.ex : ∀ (n : Nat) (l : List UInt8), l.length ≤ n → ∃ m, Bl l m
  | _, [], _ => ⟨0, .nil⟩
  | 0, c :: l, h => by simp at h
  | n + 1, c :: l, h => by
    simp at h
    cases hb : isB c with
    | true =>
      obtain ⟨m, hm⟩ := Bl.ex n l h
      exact ⟨m + 1, .b c l m hb hm⟩
    | false =>
      cases hp : [47, 47].isPrefixOf (c :: l) with
      | false => exact ⟨0, .stop c l hb hp⟩
      | true =>
        rcases split10 (c :: l) with h1 | ⟨u, v, e, h1⟩
        · exact ⟨_, .remEnd _ h1 hp⟩
        · rw [e]
          obtain ⟨t, ht⟩ := pre2 hp
          have hu : [47, 47].isPrefixOf u = true := by
            rw [e] at ht
            match u, h1, ht with
            | [], _, ht => simp at ht
            | [a], _, ht => simp at ht
            | a :: a' :: u, _, ht => simp at ht; simp [ht]
          have hl : v.length + 1 ≤ n := by
            have := congrArg List.length e
            match u, hu with
            | [], hu => simp at hu
            | [a], hu => simp at hu
            | a :: a' :: u, _ => simp at this; omega
          obtain ⟨m, hm⟩ := Bl.ex n (10 :: v) (by simpa using hl)
          exact ⟨_, .rem u v m h1 hu hm⟩
/-- lex.blank, at a place. -/
theorem blank_l0 {l : List UInt8} {n : Nat} (h : Bl l n) : ∀ p : List UInt8, p.length + l.length ≤ 1000000 → Ev (fun k => lex_blank.l0 k (S (p ++ l)) (p.length : Int)) ((p.length + n : Nat) : Int) := by
  induction h with
  | nil =>
    intro p hp
    refine Ev.succ (g := fun _ => some ((p.length : Nat) : Int)) (fun k => ?_) (Ev.always fun k => rfl)
    rw [lex_blank.l0, S_size, if_neg (by simp)]
  | b c t n hb _ ih =>
    intro p hp
    have ih := ih (p ++ [c]) (by simp at hp ⊢; omega)
    simp at hp
    simp only [List.append_assoc, List.singleton_append, List.length_append, List.length_cons, List.length_nil] at ih
    refine Ev.succ (fun k => ?_) ((show p.length + 1 + n = p.length + (n + 1) by omega) ▸ ih)
    have hc : c = 32 ∨ c = 9 ∨ c = 10 := by simpa [isB, or_assoc] using hb
    rw [lex_blank.l0, S_size, if_pos (by simp; omega), if_pos (by omega), bt_mid, idx_blank, Option.bind_some, if_pos (by rcases hc with rfl | rfl | rfl <;> decide), wrap_in (by omega) (by omega)]
    rfl
  | rem u v n hu hp2 _ ih =>
    intro p hp
    have ih := ih (p ++ u) (by simp at hp ⊢; omega)
    obtain ⟨t, rfl⟩ := pre2 hp2
    simp at hp
    simp only [List.append_assoc, List.length_append] at ih
    refine Ev.succ (fun k => ?_) ((show p.length + (47 :: 47 :: t).length + n = p.length + ((47 :: 47 :: t).length + n) by omega) ▸ ih)
    have e2 : Lib.indexByte (47 :: 47 :: t ++ 10 :: v) 10 = ((47 :: 47 :: t).length : Int) := idx_some v hu
    rw [lex_blank.l0, S_size, if_pos (by simp; omega), if_pos (by omega)]
    rw [show (47 :: 47 :: t) ++ 10 :: v = 47 :: (47 :: t ++ 10 :: v) from rfl, bt_mid, idx_blank, Option.bind_some, if_neg (by decide), if_pos (by simp; omega), S_dropL, show (⟨#[47, 47]⟩ : ByteArray) = S [47, 47] from rfl, prefix_f, Option.bind_some, if_pos (by simp)]
    unfold strings_IndexByte.f
    rw [Option.bind_some, show (10 : Int).toNat.toUInt8 = 10 from rfl, show 47 :: (47 :: t ++ 10 :: v) = 47 :: 47 :: t ++ 10 :: v from rfl, e2, if_neg (by omega), wrap_in (by omega) (by simp; omega)]
    rfl
  | remEnd u hu hp2 =>
    intro p hp
    obtain ⟨t, rfl⟩ := pre2 hp2
    simp at hp
    refine Ev.succ (g := fun _ => some ((p.length + (47 :: 47 :: t).length : Nat) : Int)) (fun k => ?_) (Ev.always fun k => rfl)
    have e2 : Lib.indexByte (47 :: 47 :: t) 10 = -1 := idx_none hu
    rw [lex_blank.l0, S_size, if_pos (by simp; omega), if_pos (by omega), bt_mid, idx_blank, Option.bind_some, if_neg (by decide), if_pos (by simp; omega), S_dropL, show (⟨#[47, 47]⟩ : ByteArray) = S [47, 47] from rfl, prefix_f, Option.bind_some, if_pos (by simp)]
    unfold strings_IndexByte.f
    rw [Option.bind_some, show (10 : Int).toNat.toUInt8 = 10 from rfl, show (S (47 :: 47 :: t)).data.toList = 47 :: 47 :: t from rfl, e2, if_pos (by omega)]
    simp
  | stop c t hb hp2 =>
    intro p hp
    simp at hp
    refine Ev.succ (g := fun _ => some ((p.length : Nat) : Int)) (fun k => ?_) (Ev.always fun k => rfl)
    have hc : ¬ (c = 32) ∧ ¬ (c = 9) ∧ ¬ (c = 10) := by simpa [isB, and_assoc] using hb
    rw [lex_blank.l0, S_size, if_pos (by simp; omega), if_pos (by omega), bt_mid, idx_blank, Option.bind_some, if_neg hc.1, if_neg hc.2.1, if_neg hc.2.2, if_neg (by decide), if_pos (by simp; omega), S_dropL, show (⟨#[47, 47]⟩ : ByteArray) = S [47, 47] from rfl, prefix_f, hp2, Option.bind_some, if_neg (by decide)]
theorem blank_f {l : List UInt8} {n : Nat} (h : Bl l n) (hl : l.length ≤ 1000000) : Ev (fun k => lex_blank.f k (S l)) ((n : Nat) : Int) := by
  have := blank_l0 h [] (by simpa using hl)
  simp only [List.nil_append, List.length_nil, Nat.zero_add] at this
  exact this

/-- A number's or a name's bytes, and what stands behind them. -/
structure Pn (u v : List UInt8) : Prop where
  ne : u ≠ []
  all : ∀ c ∈ u, partC c = true
  fin : v = [] ∨ ∃ c t, v = c :: t ∧ partC c = false
def pv (u : List UInt8) : Int := HP.psV (HP.restS (S u)) (HP.negB (S u))
def pe (u : List UInt8) : Int := HP.psE (HP.restS (S u)) (HP.negB (S u))
def digB : List UInt8 → Bool
  | [] => false
  | c :: _ => decide (48 ≤ (c.toNat : Int)) && decide ((c.toNat : Int) ≤ 57)
theorem bt_head (c : UInt8) (t : List UInt8) : bt (S (c :: t)) 0 = (c.toNat : Int) := bt_mid [] t c
theorem named_f (u : List UInt8) (hu : u.length ≤ 1000000) : Ev (fun k => schema_Named.f k ([S u])) (HN.namB (S u)) := by
  have h1 : schema_named.f (S u) = some (HN.namB (S u)) := by unfold schema_named.f; rw [if_pos (by rw [S_size]; omega)]
  unfold schema_Named.f
  refine Ev.succ (g := fun k => if HN.namB (S u) = true then schema_Named.l0 k [S u] 1 1 else some false) (fun k => ?_) ?_
  · show schema_Named.l0 (k + 1) [S u] 1 0 = _
    rw [schema_Named.l0, if_pos (by omega), if_pos (by omega), if_pos (by simp), show rdOf ByteArray.empty [S u] 0 = S u from rfl, h1, Option.bind_some, show wrap64 ((0 : Int) + 1) = 1 by unfold wrap64; omega]
  · cases hn : HN.namB (S u) with
    | false => exact Ev.always fun k => rfl
    | true =>
      refine Ev.succ (g := fun _ => some true) (fun k => ?_) (Ev.always fun k => rfl)
      simp only [if_true]
      rw [schema_Named.l0, if_neg (by omega)]
def plR (u : List UInt8) : Int × ByteArray × Int × Int × Int × Bool := if digB u = true then (1, S u, pv u, 0, (u.length : Int), pe u == 0) else (3, S u, 0, 0, (u.length : Int), HN.namB (S u))
theorem plain_f {u v : List UInt8} (h : Pn u v) (hl : (u ++ v).length ≤ 1000000) : Ev (fun k => lex_plain.f k (S (u ++ v))) (plR u) := by
  have hul : u.length ≤ 1000000 := by simp at hl; omega
  have j2 : Ev (fun k => lex_plain.j2 k (u.length : Int) (S u) (digB u)) (plR u) := by
    cases hd : digB u with
    | true =>
      refine Ev.succ (g := fun _ => some (plR u)) (fun k => ?_) (Ev.always fun k => rfl)
      rw [lex_plain.j2, if_pos rfl]
      unfold calc_Parse.f
      rw [if_pos (by rw [S_size]; omega), Option.bind_some]
      unfold plR
      rw [if_pos hd]; rfl
    | false =>
      refine Ev.succ (g := fun k => (schema_Named.f k ([S u])).bind fun t115 => some (3, S u, 0, 0, (u.length : Int), t115)) (fun k => ?_) ?_
      · rw [lex_plain.j2, if_neg (by decide)]
      · refine Ev.bind (named_f u hul) (Ev.always fun k => ?_)
        unfold plR
        rw [if_neg (by rw [hd]; decide)]
  have j1 : Ev (fun k => lex_plain.j1 k (S (u ++ v)) (u.length : Int)) (plR u) := by
    refine Ev.succ (fun k => ?_) j2
    rw [lex_plain.j1, if_pos (by omega), if_pos (by rw [S_size]; simp <;> omega), S_take, List.take_left]
    cases u with
    | nil => exact absurd rfl h.ne
    | cons c t =>
      rw [if_pos (by rw [S_size]; simp <;> omega), bt_head]
      by_cases h1 : (c.toNat : Int) ≥ 48
      · rw [if_pos h1]
        have : digB (c :: t) = decide ((c.toNat : Int) ≤ 57) := by simp only [digB, decide_eq_true h1, Bool.true_and]
        rw [this]
      · rw [if_neg h1]
        have : digB (c :: t) = false := by simp only [digB, decide_eq_false h1, Bool.false_and]
        rw [this]
  have l0 : ∀ r p : List UInt8, u = p ++ r → Ev (fun k => lex_plain.l0 k (S (u ++ v)) (p.length : Int)) (plR u) := by
    intro r
    induction r with
    | nil =>
      intro p e
      rw [List.append_nil] at e; subst e
      refine Ev.succ (fun k => ?_) j1
      rcases h.fin with rfl | ⟨c, t, rfl, hc⟩
      · rw [lex_plain.l0, if_neg (by rw [S_size]; simp)]
      · rw [lex_plain.l0, if_pos (by rw [S_size]; simp; omega), if_pos (by omega), bt_mid, part_f, Option.bind_some, if_neg (by rw [show partN (c.toNat : Int) = partC c from rfl, hc]; decide)]
    | cons c r ih =>
      intro p e
      have hc : partC c = true := h.all c (by rw [e]; simp)
      have ih := ih (p ++ [c]) (by rw [e]; simp)
      refine Ev.succ (fun k => ?_) ih
      subst e
      rw [lex_plain.l0, if_pos (by rw [S_size]; simp; omega), if_pos (by omega), List.append_assoc, List.cons_append, bt_mid, part_f, Option.bind_some, if_pos (show partN (c.toNat : Int) = true from hc), wrap_in (by omega) (by simp at hul; omega)]
      simp
  exact l0 u [] (by simp)

/-- Behind the opening sign of a text: its bytes, and how many bytes are read with the closing one. -/
inductive Q : List UInt8 → List UInt8 → Nat → Prop
  | close0 : Q [39] [] 1
  | close (c : UInt8) (t : List UInt8) : c ≠ 39 → Q (39 :: c :: t) [] 1
  | quote (t txt : List UInt8) (m : Nat) : Q t txt m → Q (39 :: 39 :: t) (39 :: txt) (m + 2)
  | ch (c : UInt8) (t txt : List UInt8) (m : Nat) : c ≠ 10 → c ≠ 39 → Q t txt m → Q (c :: t) (c :: txt) (m + 1)
inductive QF : List UInt8 → Prop
  | nil : QF []
  | nl (t : List UInt8) : QF (10 :: t)
  | quote (t : List UInt8) : QF t → QF (39 :: 39 :: t)
  | ch (c : UInt8) (t : List UInt8) : c ≠ 10 → c ≠ 39 → QF t → QF (c :: t)
theorem Q.ex : ∀ (n : Nat) (l : List UInt8), l.length ≤ n → (∃ txt m, Q l txt m) ∨ QF l
  | _, [], _ => .inr .nil
  | 0, c :: l, h => by simp at h
  | n + 1, c :: l, h => by
    simp at h
    by_cases h1 : c = 10
    · subst h1; exact .inr (.nl l)
    · by_cases h2 : c = 39
      · subst h2
        cases l with
        | nil => exact .inl ⟨_, _, .close0⟩
        | cons d t =>
          by_cases h3 : d = 39
          · subst h3
            simp at h
            rcases Q.ex n t (by omega) with ⟨txt, m, hq⟩ | hq
            · exact .inl ⟨_, _, .quote t txt m hq⟩
            · exact .inr (.quote t hq)
          · exact .inl ⟨_, _, .close d t h3⟩
      · rcases Q.ex n l h with ⟨txt, m, hq⟩ | hq
        · exact .inl ⟨_, _, .ch c l txt m h1 h2 hq⟩
        · exact .inr (.ch c l h1 h2 hq)
theorem Q.le {l txt : List UInt8} {m : Nat} (h : Q l txt m) : m ≤ l.length ∧ txt.length < m ∧ m = 1 + txt.length + (txt.filter (· == 39)).length := by
  induction h with
  | close0 => simp
  | close c t _ => simp
  | quote t txt m _ ih => simp; omega
  | ch c t txt m h1 h2 _ ih => simp [h2]; omega
def nums (l : List UInt8) : List Int := l.map fun c => (c.toNat : Int)
theorem str_nums (l : List UInt8) : strOfNums (nums l) = S l := by
  unfold strOfNums nums S
  simp [Function.comp_def]
theorem e39 (c : UInt8) (h : c ≠ 39) : ¬ (c.toNat : Int) = 39 := by
  intro e
  exact h (UInt8.toNat_inj.1 (by have : c.toNat = 39 := by omega
                                 simpa using this))
theorem e10 (c : UInt8) (h : c ≠ 10) : ¬ (c.toNat : Int) = 10 := by
  intro e
  exact h (UInt8.toNat_inj.1 (by have : c.toNat = 10 := by omega
                                 simpa using this))
theorem bt_mid2 (p t : List UInt8) (b c : UInt8) : bt (S (p ++ b :: c :: t)) ((p.length : Int) + 1) = (c.toNat : Int) := by
  have := bt_mid (p ++ [b]) t c
  simpa using this
theorem quoted_l0 {l txt : List UInt8} {m : Nat} (h : Q l txt m) : ∀ p acc : List UInt8, p.length + l.length ≤ 1000000 → acc.length ≤ p.length →
    Ev (fun k => lex_quoted.l0 k (S (p ++ l)) (nums acc) (p.length : Int)) (2, S (acc ++ txt), 0, 0, ((p.length + m : Nat) : Int), decide (((acc ++ txt).length : Int) ≤ 200)) := by
  induction h with
  | close0 =>
    intro p acc hp ha
    simp at hp
    refine Ev.succ (g := fun _ => some (2, S acc, 0, 0, ((p.length + 1 : Nat) : Int), decide ((acc.length : Int) ≤ 200))) (fun k => ?_) (Ev.always fun k => by simp)
    rw [lex_quoted.l0, if_pos (by rw [S_size]; simp <;> omega), if_pos (by omega), bt_mid, if_neg (by decide), if_pos (by decide), wrap_in (by omega) (by omega), if_neg (by rw [S_size]; simp), str_nums]
    simp [nums]
  | close c t hc =>
    intro p acc hp ha
    simp at hp
    refine Ev.succ (g := fun _ => some (2, S acc, 0, 0, ((p.length + 1 : Nat) : Int), decide ((acc.length : Int) ≤ 200))) (fun k => ?_) (Ev.always fun k => by simp)
    rw [lex_quoted.l0, if_pos (by rw [S_size]; simp; omega), if_pos (by omega), bt_mid, if_neg (by decide), if_pos (by decide), wrap_in (by omega) (by omega), if_pos (by rw [S_size]; simp; omega), if_pos (by omega), bt_mid2, if_neg (e39 c hc), str_nums]
    simp [nums]
  | quote t txt m _ ih =>
    intro p acc hp ha
    simp at hp
    have ih := ih (p ++ [39, 39]) (acc ++ [39]) (by simp; omega) (by simp; omega)
    simp only [List.append_assoc, List.cons_append, List.nil_append, List.length_append, List.length_cons, List.length_nil] at ih
    rw [show p.length + (0 + 1 + 1) + m = p.length + (m + 2) by omega] at ih
    refine Ev.succ (g := fun k => lex_quoted.l0 k (S (p ++ 39 :: 39 :: t)) (nums (acc ++ [39])) ((p.length + (0 + 1 + 1) : Nat) : Int)) (fun k => ?_) (by simpa using ih)
    rw [lex_quoted.l0, if_pos (by rw [S_size]; simp; omega), if_pos (by omega), bt_mid, if_neg (by decide), if_pos (by decide), wrap_in (by omega) (by omega), if_pos (by rw [S_size]; simp; omega), if_pos (by omega), bt_mid2, if_pos (by decide), if_pos (by simp [nums]; omega), wrap_in (by omega) (by omega)]
    simp [nums]
    rfl
  | ch c t txt m h1 h2 _ ih =>
    intro p acc hp ha
    simp at hp
    have ih := ih (p ++ [c]) (acc ++ [c]) (by simp; omega) (by simp; omega)
    simp only [List.append_assoc, List.cons_append, List.nil_append, List.length_append, List.length_cons, List.length_nil] at ih
    rw [show p.length + (0 + 1) + m = p.length + (m + 1) by omega] at ih
    refine Ev.succ (g := fun k => lex_quoted.l0 k (S (p ++ c :: t)) (nums (acc ++ [c])) ((p.length + (0 + 1) : Nat) : Int)) (fun k => ?_) (by simpa using ih)
    rw [lex_quoted.l0, if_pos (by rw [S_size]; simp; omega), if_pos (by omega), bt_mid, if_neg (e10 c h1), if_neg (e39 c h2), if_pos (by simp [nums]; omega), wrap_in (by omega) (by omega)]
    simp [nums]
def failR : Int × ByteArray × Int × Int × Int × Bool := (0, (⟨#[]⟩ : ByteArray), 0, 0, 0, false)
theorem quoted_fail {l : List UInt8} (h : QF l) : ∀ p acc : List UInt8, p.length + l.length ≤ 1000000 → acc.length ≤ p.length →
    Ev (fun k => lex_quoted.l0 k (S (p ++ l)) (nums acc) (p.length : Int)) failR := by
  induction h with
  | nil =>
    intro p acc hp ha
    refine Ev.succ (g := fun _ => some failR) (fun k => ?_) (Ev.always fun k => rfl)
    rw [lex_quoted.l0, if_neg (by rw [S_size]; simp)]; rfl
  | nl t =>
    intro p acc hp ha
    refine Ev.succ (g := fun _ => some failR) (fun k => ?_) (Ev.always fun k => rfl)
    rw [lex_quoted.l0, if_pos (by rw [S_size]; simp <;> omega), if_pos (by omega), bt_mid, if_pos (by decide)]; rfl
  | quote t _ ih =>
    intro p acc hp ha
    simp at hp
    have ih := ih (p ++ [39, 39]) (acc ++ [39]) (by simp; omega) (by simp; omega)
    simp only [List.append_assoc, List.cons_append, List.nil_append, List.length_append, List.length_cons, List.length_nil] at ih
    refine Ev.succ (g := fun k => lex_quoted.l0 k (S (p ++ 39 :: 39 :: t)) (nums (acc ++ [39])) ((p.length + (0 + 1 + 1) : Nat) : Int)) (fun k => ?_) (by simpa using ih)
    rw [lex_quoted.l0, if_pos (by rw [S_size]; simp; omega), if_pos (by omega), bt_mid, if_neg (by decide), if_pos (by decide), wrap_in (by omega) (by omega), if_pos (by rw [S_size]; simp; omega), if_pos (by omega), bt_mid2, if_pos (by decide), if_pos (by simp [nums]; omega), wrap_in (by omega) (by omega)]
    simp [nums]
    rfl
  | ch c t h1 h2 _ ih =>
    intro p acc hp ha
    simp at hp
    have ih := ih (p ++ [c]) (acc ++ [c]) (by simp; omega) (by simp; omega)
    simp only [List.append_assoc, List.cons_append, List.nil_append, List.length_append, List.length_cons, List.length_nil] at ih
    refine Ev.succ (g := fun k => lex_quoted.l0 k (S (p ++ c :: t)) (nums (acc ++ [c])) ((p.length + (0 + 1) : Nat) : Int)) (fun k => ?_) (by simpa using ih)
    rw [lex_quoted.l0, if_pos (by rw [S_size]; simp; omega), if_pos (by omega), bt_mid, if_neg (e10 c h1), if_neg (e39 c h2), if_pos (by simp [nums]; omega), wrap_in (by omega) (by omega)]
    simp [nums]

/-- All signs. -/
def SG : List (List UInt8) := [[60, 61], [33, 61], [62, 61], [40], [41], [123], [125], [91], [93], [44], [59], [58], [46], [43], [45], [42], [47], [37], [60], [61], [62]]
def signR (o : Option (List UInt8)) : Int × ByteArray × Int × Int × Int × Bool := match o with
  | some u => (0, S u, 0, 0, (u.length : Int), true)
  | none => failR
theorem sign_l0 (l : List UInt8) : ∀ b a : List (List UInt8), SG = a ++ b → Ev (fun k => lex_next.l0 k (S l) (SG.map S) (SG.length : Int) (a.length : Int)) (signR (b.find? (fun u => u.isPrefixOf l)))
  | [], a, e => by
    refine Ev.succ (g := fun _ => some failR) (fun k => ?_) (Ev.always fun k => rfl)
    rw [List.append_nil] at e
    rw [lex_next.l0, if_neg (by rw [e]; omega)]; rfl
  | u :: b, a, e => by
    have hlen : a.length < SG.length := by rw [e]; simp
    have hS : SG.length = 21 := rfl
    have hg : rdOf ByteArray.empty (SG.map S) (a.length : Int) = S u := by
      unfold rdOf
      rw [Int.toNat_natCast, e]
      simp [List.getD]
    have ih := sign_l0 l b (a ++ [u]) (by rw [e]; simp)
    cases hp : u.isPrefixOf l with
    | true =>
      refine Ev.succ (g := fun _ => some (0, S u, 0, 0, (u.length : Int), true)) (fun k => ?_) (Ev.always fun k => ?_)
      · rw [lex_next.l0, if_pos (by omega), if_pos (by omega), if_pos (by simp; omega), hg, prefix_f, hp, Option.bind_some, if_pos rfl, S_size]
      · rw [List.find?_cons_of_pos (by exact hp)]; rfl
    | false =>
      rw [List.find?_cons_of_neg (by rw [hp]; decide)]
      refine Ev.succ (g := fun k => lex_next.l0 k (S l) (SG.map S) (SG.length : Int) ((a ++ [u]).length : Int)) (fun k => ?_) ih
      rw [lex_next.l0, if_pos (by omega), if_pos (by omega), if_pos (by simp; omega), hg, prefix_f, hp, Option.bind_some, if_neg (by decide), wrap_in (by omega) (by omega)]
      simp
/-- The word with which a text begins: its kind, its text, its number, how many bytes it has. -/
inductive Nx : List UInt8 → Int → List UInt8 → Int → Nat → Prop
  | num (u v : List UInt8) : Pn u v → digB u = true → pe u = 0 → Nx (u ++ v) 1 u (pv u) u.length
  | name (u v : List UInt8) : Pn u v → digB u = false → HN.namB (S u) = true → Nx (u ++ v) 3 u 0 u.length
  | text (t txt : List UInt8) (m : Nat) : Q t txt m → txt.length ≤ 200 → Nx (39 :: t) 2 txt 0 (m + 1)
  | sign (c : UInt8) (t u : List UInt8) : partC c = false → c ≠ 39 → SG.find? (fun u => u.isPrefixOf (c :: t)) = some u → Nx (c :: t) 0 u 0 u.length
theorem next_part {l : List UInt8} {u v : List UInt8} (h : Pn u v) (hl : (u ++ v).length ≤ 1000000) : Ev (fun k => lex_next.f k (S (u ++ v))) (plR u) := by
  cases u with
  | nil => exact absurd rfl h.ne
  | cons c t =>
    have hc : partC c = true := h.all c (by simp)
    refine Ev.congr (g := fun k => (lex_plain.f k (S (c :: t ++ v))).bind fun bt128 => (some (bt128.1, bt128.2.1, bt128.2.2.1, bt128.2.2.2.1, bt128.2.2.2.2.1, bt128.2.2.2.2.2))) (fun k => ?_) (Ev.bind (plain_f h hl) (Ev.always fun k => rfl))
    unfold lex_next.f
    rw [if_pos (by rw [S_size]; simp <;> omega), List.cons_append, bt_head, part_f, Option.bind_some, if_pos (show partN (c.toNat : Int) = true from hc)]
theorem next_quote {t : List UInt8} {r : Int × ByteArray × Int × Int × Int × Bool} (h : Ev (fun k => lex_quoted.f k (S (39 :: t))) r) : Ev (fun k => lex_next.f k (S (39 :: t))) r := by
  refine Ev.congr (g := fun k => (lex_quoted.f k (S (39 :: t))).bind fun bt134 => (some (bt134.1, bt134.2.1, bt134.2.2.1, bt134.2.2.2.1, bt134.2.2.2.2.1, bt134.2.2.2.2.2))) (fun k => ?_) (Ev.bind h (Ev.always fun k => rfl))
  unfold lex_next.f
  rw [if_pos (by rw [S_size]; simp <;> omega), bt_head, part_f, Option.bind_some, if_neg (by decide), if_pos (by decide)]
theorem next_sign {c : UInt8} {t : List UInt8} (h1 : partC c = false) (h2 : c ≠ 39) : Ev (fun k => lex_next.f k (S (c :: t))) (signR (SG.find? (fun u => u.isPrefixOf (c :: t)))) := by
  refine Ev.congr (g := fun k => lex_next.l0 k (S (c :: t)) (SG.map S) (SG.length : Int) 0) (fun k => ?_) (sign_l0 (c :: t) SG [] rfl)
  unfold lex_next.f lex_signs.f
  rw [if_pos (by rw [S_size]; simp <;> omega), bt_head, part_f, Option.bind_some, if_neg (by rw [show partN (c.toNat : Int) = partC c from rfl, h1]; decide), if_neg (e39 c h2), Option.bind_some]
  rfl
theorem next_ev {l : List UInt8} {kd N : Int} {u : List UInt8} {m : Nat} (h : Nx l kd u N m) (hl : l.length ≤ 1000000) : Ev (fun k => lex_next.f k (S l)) (kd, S u, N, 0, (m : Int), true) := by
  cases h with
  | num _ v hp hd he =>
    have := next_part (l := []) hp hl
    unfold plR at this
    rwa [if_pos hd, he] at this
  | name _ v hp hd he =>
    have := next_part (l := []) hp hl
    unfold plR at this
    rwa [if_neg (by rw [hd]; decide), he] at this
  | text t _ m hq ht =>
    have := quoted_l0 hq [39] [] (by simp at hl ⊢; omega) (by simp)
    refine next_quote ?_
    rw [List.nil_append, decide_eq_true (by omega)] at this
    rw [show ([39] : List UInt8).length + m = m + 1 by simp; omega] at this
    exact this
  | sign c t _ h1 h2 hf =>
    have := next_sign (t := t) h1 h2
    rw [hf] at this
    exact this
theorem takeP : ∀ l : List UInt8, ∃ u v, l = u ++ v ∧ (∀ c ∈ u, partC c = true) ∧ (v = [] ∨ ∃ c t, v = c :: t ∧ partC c = false)
  | [] => ⟨[], [], rfl, by simp, .inl rfl⟩
  | c :: l => by
    cases hc : partC c with
    | false => exact ⟨[], c :: l, rfl, by simp, .inr ⟨c, l, rfl, hc⟩⟩
    | true =>
      obtain ⟨u, v, rfl, h1, h2⟩ := takeP l
      exact ⟨c :: u, v, rfl, by simpa [hc] using h1, h2⟩
theorem next_ex (l : List UInt8) (hn : l ≠ []) (hl : l.length ≤ 1000000) : (∃ kd u N m, Nx l kd u N m) ∨ ∃ a b c d e, Ev (fun k => lex_next.f k (S l)) (a, b, c, d, e, false) := by
  cases l with
  | nil => exact absurd rfl hn
  | cons c t =>
    cases hc : partC c with
    | true =>
      obtain ⟨u, v, e, h1, h2⟩ := takeP (c :: t)
      have hu : u ≠ [] := by
        rintro rfl
        rcases h2 with rfl | ⟨c', t', rfl, h3⟩
        · cases e
        · simp at e; rw [← e.1, hc] at h3; cases h3
      have hP : Pn u v := ⟨hu, h1, h2⟩
      rw [e] at hl ⊢
      have hn := next_part (l := []) hP hl
      unfold plR at hn
      cases hd : digB u with
      | true =>
        rw [if_pos hd] at hn
        by_cases he : pe u = 0
        · exact .inl ⟨_, _, _, _, .num u v hP hd he⟩
        · rw [show (pe u == 0) = false by simpa using he] at hn
          exact .inr ⟨_, _, _, _, _, hn⟩
      | false =>
        rw [if_neg (by rw [hd]; decide)] at hn
        cases he : HN.namB (S u) with
        | true => exact .inl ⟨_, _, _, _, .name u v hP hd he⟩
        | false => rw [he] at hn; exact .inr ⟨_, _, _, _, _, hn⟩
    | false =>
      by_cases h9 : c = 39
      · subst h9
        rcases Q.ex _ t (Nat.le_refl _) with ⟨txt, m, hq⟩ | hq
        · by_cases ht : txt.length ≤ 200
          · exact .inl ⟨_, _, _, _, .text t txt m hq ht⟩
          · have := next_quote (quoted_l0 hq [39] [] (by simp at hl ⊢; omega) (by simp))
            rw [List.nil_append, decide_eq_false (by omega)] at this
            exact .inr ⟨_, _, _, _, _, this⟩
        · exact .inr ⟨_, _, _, _, _, next_quote (quoted_fail hq [39] [] (by simp at hl ⊢; omega) (by simp))⟩
      · have := next_sign (t := t) hc h9
        cases hf : SG.find? (fun u => u.isPrefixOf (c :: t)) with
        | some u => exact .inl ⟨_, _, _, _, .sign c t u hc h9 hf⟩
        | none => rw [hf] at this; exact .inr ⟨_, _, _, _, _, this⟩
theorem find_mem {l u : List UInt8} (h : SG.find? (fun u => u.isPrefixOf l) = some u) : u ∈ SG ∧ u <+: l :=
  ⟨List.mem_of_find?_eq_some h, List.isPrefixOf_iff_prefix.1 (List.find?_some (p := fun u => List.isPrefixOf u l) h)⟩
theorem SG_len : ∀ u ∈ SG, 1 ≤ u.length ∧ u.length ≤ 2 := by decide
structure Nxp (l : List UInt8) (kd : Int) (u : List UInt8) (m : Nat) : Prop where
  le : m ≤ l.length
  ge : 1 ≤ m
  plain : kd ≠ 2 → l.take m = u ∧ m = u.length
  text : kd = 2 → m = 2 + u.length + (u.filter (· == 39)).length
  kinds : 0 ≤ kd ∧ kd ≤ 3
theorem Nx.props {l : List UInt8} {kd N : Int} {u : List UInt8} {m : Nat} (h : Nx l kd u N m) : Nxp l kd u m := by
  cases h with
  | num _ v hp hd he =>
    have := List.length_pos_iff.2 hp.ne
    exact ⟨by simp, by omega, fun _ => ⟨by simp, rfl⟩, (fun h => by cases h), by omega, by omega⟩
  | name _ v hp hd he =>
    have := List.length_pos_iff.2 hp.ne
    exact ⟨by simp, by omega, fun _ => ⟨by simp, rfl⟩, (fun h => by cases h), by omega, by omega⟩
  | text t _ m hq ht =>
    obtain ⟨h1, h2, h3⟩ := hq.le
    exact ⟨by simp; omega, by omega, fun h => absurd rfl h, fun _ => by omega, by omega, by omega⟩
  | sign c t _ h1 h2 hf =>
    obtain ⟨hm, v, hv⟩ := find_mem hf
    have := SG_len _ hm
    refine ⟨by rw [← hv]; simp, by omega, fun _ => ⟨by rw [← hv]; simp, rfl⟩, (fun h => by cases h), by omega, by omega⟩
/-- The words behind a place. -/
inductive Ws : Nat → List UInt8 → List S28 → Prop
  | nil (p : Nat) : Ws p [] []
  | cons (p : Nat) (l : List UInt8) (kd N : Int) (u : List UInt8) (m b : Nat) (ws : List S28) : l ≠ [] → Nx l kd u N m → Bl (l.drop m) b → Ws (p + m + b) (l.drop (m + b)) ws → Ws p l (⟨kd, S u, N, (p : Int)⟩ :: ws)
theorem Ws.len {p : Nat} {l : List UInt8} {ws : List S28} (h : Ws p l ws) : ws.length ≤ l.length := by
  induction h with
  | nil => simp
  | cons p l kd N u m b ws hn hx hb _ ih =>
    have := hx.props
    have h1 := this.ge; have h2 := this.le
    simp at ih ⊢; omega
/-- One round of Words. -/
theorem words_step {p l u : List UInt8} {kd N : Int} {m b : Nat} {acc : List S28} {R : List S28 × Int × Int} (hl : p.length + l.length ≤ 1000000) (ha : acc.length ≤ p.length) (hn : l ≠ []) (hx : Nx l kd u N m) (hb : Bl (l.drop m) b)
    (h : Ev (fun k => lex_Words.l0 k (S (p ++ l)) (acc ++ [⟨kd, S u, N, (p.length : Int)⟩]) ((p.length + m + b : Nat) : Int)) R) : Ev (fun k => lex_Words.l0 k (S (p ++ l)) acc (p.length : Int)) R := by
  have hp := hx.props
  have h1 := hp.ge; have h2 := hp.le
  have hpos := List.length_pos_iff.2 hn
  have hble := hb.le
  simp at hble
  have e1 : (S (p ++ l)).extract ((p.length + m : Nat) : Int).toNat (S (p ++ l)).size = S (l.drop m) := by
    rw [S_drop', List.drop_append]; simp
  refine Ev.succ (g := fun k => (lex_next.f k (S l)).bind fun bt146 => (if bt146.2.2.2.2.2 = true then (if acc.length < 3518437208883 then (if 0 ≤ (wrap64 ((p.length : Int) + bt146.2.2.2.2.1)) then (if (wrap64 ((p.length : Int) + bt146.2.2.2.2.1)) ≤ ((S (p ++ l)).size : Int) then ((lex_blank.f k ((S (p ++ l)).extract ((wrap64 ((p.length : Int) + bt146.2.2.2.2.1)) : Int).toNat (S (p ++ l)).size)).bind fun t156 => (lex_Words.l0 k (S (p ++ l)) (acc ++ [(⟨bt146.1, bt146.2.1, bt146.2.2.1, (p.length : Int)⟩ : S28)]) (wrap64 ((wrap64 ((p.length : Int) + bt146.2.2.2.2.1)) + t156)))) else (none)) else (none)) else (none)) else (some (([] : List (S28)), (p.length : Int), 12)))) (fun k => ?_) ?_
  · rw [lex_Words.l0, if_pos (by rw [S_size]; simp <;> omega), if_pos (by omega), if_pos (by rw [S_size]; simp <;> omega), S_drop]
  · refine Ev.bind (next_ev hx (by omega)) ?_
    refine Ev.congr (g := fun k => (lex_blank.f k (S (l.drop m))).bind fun t156 => (lex_Words.l0 k (S (p ++ l)) (acc ++ [(⟨kd, S u, N, (p.length : Int)⟩ : S28)]) (wrap64 (((p.length + m : Nat) : Int) + t156)))) (fun k => ?_) (Ev.bind (blank_f hb (by simp; omega)) ?_)
    · have e2 : wrap64 ((p.length : Int) + (m : Int)) = ((p.length + m : Nat) : Int) := by rw [wrap_in (by omega) (by omega)]; simp
      rw [if_pos rfl, if_pos (by omega)]
      simp only [e2]
      rw [if_pos (by omega), if_pos (by rw [S_size]; simp; omega), e1]
    · refine Ev.congr (fun k => ?_) h
      rw [wrap_in (by omega) (by omega)]
      simp
theorem words_l0 {q : Nat} {l : List UInt8} {ws : List S28} (h : Ws q l ws) : ∀ (p : List UInt8) (acc : List S28), q = p.length → p.length + l.length ≤ 1000000 → acc.length ≤ p.length →
    Ev (fun k => lex_Words.l0 k (S (p ++ l)) acc (p.length : Int)) (acc ++ ws, 0, 0) := by
  induction h with
  | nil q =>
    intro p acc e hl ha
    refine Ev.succ (g := fun _ => some (acc, 0, 0)) (fun k => ?_) (Ev.always fun k => by simp)
    rw [lex_Words.l0, if_neg (by rw [S_size]; simp)]
  | cons q l kd N u m b ws hn hx hb _ ih =>
    intro p acc e hl ha
    subst e
    have hp := hx.props
    have h1 := hp.ge; have h2 := hp.le
    have hble := hb.le
    simp at hble
    refine words_step hl ha hn hx hb ?_
    have ih := ih (p ++ l.take (m + b)) (acc ++ [⟨kd, S u, N, (p.length : Int)⟩]) (by simp; omega) (by simp; omega) (by simp; omega)
    rw [List.append_assoc, List.take_append_drop] at ih
    have e3 : (p ++ l.take (m + b)).length = p.length + m + b := by simp; omega
    rw [e3] at ih
    simpa using ih
theorem words_ex : ∀ (n : Nat) (l : List UInt8) (p : List UInt8), l.length ≤ n → p.length + l.length ≤ 1000000 → (∃ ws, Ws p.length l ws) ∨ ∃ a : Int, ∀ acc : List S28, acc.length ≤ p.length → Ev (fun k => lex_Words.l0 k (S (p ++ l)) acc (p.length : Int)) ([], a, 12)
  | n, [], p, _, _ => .inl ⟨[], .nil _⟩
  | 0, c :: l, p, h, _ => by simp at h
  | n + 1, c :: t, p, h, hl => by
    rcases next_ex (c :: t) (by simp) (by omega) with ⟨kd, u, N, m, hx⟩ | ⟨x1, x2, x3, x4, x5, hx⟩
    · have hp := hx.props
      have h1 := hp.ge; have h2 := hp.le
      obtain ⟨b, hb⟩ := Bl.ex _ ((c :: t).drop m) (Nat.le_refl _)
      have hble := hb.le
      generalize hL : c :: t = L at *
      have hn : L ≠ [] := by rw [← hL]; simp
      simp at hble
      have e3 : (p ++ L.take (m + b)).length = p.length + m + b := by simp; omega
      rcases words_ex n (L.drop (m + b)) (p ++ L.take (m + b)) (by simp; omega) (by simp; omega) with ⟨ws, hw⟩ | ⟨a, hw⟩
      · rw [e3] at hw
        exact .inl ⟨_, .cons _ _ _ _ _ _ _ _ hn hx hb hw⟩
      · refine .inr ⟨a, fun acc ha => words_step hl ha hn hx hb ?_⟩
        have := hw (acc ++ [⟨kd, S u, N, (p.length : Int)⟩]) (by simp; omega)
        rw [List.append_assoc, List.take_append_drop, e3] at this
        exact this
    · refine .inr ⟨(p.length : Int), fun acc ha => ?_⟩
      refine Ev.succ (g := fun k => (lex_next.f k (S (c :: t))).bind fun bt146 => (if bt146.2.2.2.2.2 = true then (if acc.length < 3518437208883 then (if 0 ≤ (wrap64 ((p.length : Int) + bt146.2.2.2.2.1)) then (if (wrap64 ((p.length : Int) + bt146.2.2.2.2.1)) ≤ ((S (p ++ c :: t)).size : Int) then ((lex_blank.f k ((S (p ++ c :: t)).extract ((wrap64 ((p.length : Int) + bt146.2.2.2.2.1)) : Int).toNat (S (p ++ c :: t)).size)).bind fun t156 => (lex_Words.l0 k (S (p ++ c :: t)) (acc ++ [(⟨bt146.1, bt146.2.1, bt146.2.2.1, (p.length : Int)⟩ : S28)]) (wrap64 ((wrap64 ((p.length : Int) + bt146.2.2.2.2.1)) + t156)))) else (none)) else (none)) else (none)) else (some (([] : List (S28)), (p.length : Int), 12)))) (fun k => ?_) ?_
      · rw [lex_Words.l0, if_pos (by rw [S_size]; simp <;> omega), if_pos (by omega), if_pos (by rw [S_size]; simp <;> omega), S_drop]
      · refine Ev.bind hx (Ev.always fun k => ?_)
        rw [if_neg (by simp)]
/-- What Words answers. -/
theorem words_f (s : List UInt8) : (∃ a e : Int, e ≠ 0 ∧ Ev (fun k => lex_Words.f k (S s)) ([], a, e)) ∨ (s.length ≤ 8000 ∧ ∃ b ws, Bl s b ∧ Ws b (s.drop b) ws ∧ Ev (fun k => lex_Words.f k (S s)) (ws, 0, 0)) := by
  by_cases h : 8000 < s.length
  · refine .inl ⟨0, 5, by omega, Ev.always fun k => ?_⟩
    unfold lex_Words.f
    rw [if_pos (by rw [S_size]; omega)]
  · obtain ⟨b, hb⟩ := Bl.ex _ s (Nat.le_refl _)
    have hble := hb.le
    have e3 : (s.take b).length = b := by simp; omega
    have key : ∀ R, Ev (fun k => lex_Words.l0 k (S (s.take b ++ s.drop b)) [] ((s.take b).length : Int)) R → Ev (fun k => lex_Words.f k (S s)) R := by
      intro R hR
      rw [List.take_append_drop, e3] at hR
      refine Ev.congr (g := fun k => (lex_blank.f k (S s)).bind fun t145 => (lex_Words.l0 k (S s) [] t145)) (fun k => ?_) (Ev.bind (blank_f hb (by omega)) hR)
      unfold lex_Words.f
      rw [if_neg (by rw [S_size]; omega)]
    rcases words_ex _ (s.drop b) (s.take b) (Nat.le_refl _) (by simp; omega) with ⟨ws, hw⟩ | ⟨a, hw⟩
    · refine .inr ⟨by omega, b, ws, hb, by rwa [e3] at hw, key _ ?_⟩
      exact words_l0 hw _ [] rfl (by simp; omega) (by simp)
    · exact .inl ⟨a, 12, by omega, key _ (hw [] (by simp))⟩
end Go.Proofs.Ytchjlcchggeonaa.PL
