import Derived.Test.YtchjlcchggeonaaPL
import Derived.Test.YtchjlcchggeonaaPLexx18
set_option linter.unusedVariables false
set_option linter.unusedSimpArgs false
namespace Go.Proofs.Ytchjlcchggeonaa.PN
open Go.RowKit Go.Proofs.Ytchjlcchggeonaa.PLex Go.Proofs.Ytchjlcchggeonaa.PL Go.Proofs.YtchjlcchggeonaaW.PrintLast
open Go.Proofs.YtchjlcchggeonaaW.PrintWords hiding Ev

theorem awake_t : affluxlaw11_awake.f = some true := rfl
theorem sign_sep (r : List UInt8) : ∀ u ∈ SG, SG.find? (fun x => x.isPrefixOf (u ++ 32 :: r)) = some u ∧ ∃ c t, u = c :: t ∧ isB c = false ∧ partC c = false ∧ c ≠ 39 ∧ [47, 47].isPrefixOf (c :: (t ++ 32 :: r)) = false := by
  intro u hu
  simp only [SG, List.mem_cons, List.not_mem_nil, or_false] at hu
  rcases hu with rfl | rfl | rfl | rfl | rfl | rfl | rfl | rfl | rfl | rfl | rfl | rfl | rfl | rfl | rfl | rfl | rfl | rfl | rfl | rfl | rfl
  all_goals exact ⟨rfl, _, _, rfl, rfl, rfl, by decide, rfl⟩
theorem next_sep {l u : List UInt8} {kd N : Int} {m : Nat} (h : Nx l kd u N m) (hk : kd ≠ 2) (r : List UInt8) : Nx (u ++ 32 :: r) kd u N u.length := by
  cases h with
  | num _ v hp hd he => exact .num u (32 :: r) ⟨hp.ne, hp.all, .inr ⟨32, r, rfl, by decide⟩⟩ hd he
  | name _ v hp hd he => exact .name u (32 :: r) ⟨hp.ne, hp.all, .inr ⟨32, r, rfl, by decide⟩⟩ hd he
  | text t _ m hq ht => exact absurd rfl hk
  | sign c t _ h1 h2 hf =>
    obtain ⟨hm, _⟩ := find_mem hf
    obtain ⟨hs, c', t', rfl, hb, hpc, h9, _⟩ := sign_sep r u hm
    exact .sign c' (t' ++ 32 :: r) (c' :: t') hpc h9 hs
theorem start_sep {l u : List UInt8} {kd N : Int} {m : Nat} (h : Nx l kd u N m) (hk : kd ≠ 2) (r : List UInt8) : Bl (u ++ 32 :: r) 0 := by
  have pn : ∀ {u v : List UInt8}, Pn u v → Bl (u ++ 32 :: r) 0 := by
    intro u v hp
    cases u with
    | nil => exact absurd rfl hp.ne
    | cons c t =>
      have hc : partC c = true := hp.all c (by simp)
      have h1 : isB c = false := by
        cases hb : isB c with
        | false => rfl
        | true =>
          have : c = 32 ∨ c = 9 ∨ c = 10 := by simpa [isB, or_assoc] using hb
          rcases this with rfl | rfl | rfl <;> simp [partC, partN] at hc
      refine .stop c _ h1 ?_
      cases hb : [47, 47].isPrefixOf (c :: (t ++ 32 :: r)) with
      | false => rfl
      | true =>
        obtain ⟨t', e⟩ := pre2 hb
        injection e with e1 e2
        subst e1
        simp [partC, partN] at hc
  cases h with
  | num _ v hp hd he => exact pn hp
  | name _ v hp hd he => exact pn hp
  | text t _ m hq ht => exact absurd rfl hk
  | sign c t _ h1 h2 hf =>
    obtain ⟨hm, _⟩ := find_mem hf
    obtain ⟨hs, c', t', rfl, hb, hpc, h9, h47⟩ := sign_sep r u hm
    exact .stop c' _ hb h47
/-- What is put behind a word. -/
def rest (b : Bool) : List UInt8 := if b = true then [47, 47, 32, 39, 32, 123, 10] else []
def tailL (b : Bool) : List S28 → List UInt8
  | [] => []
  | w :: ws => w.f1.data.toList ++ 32 :: (rest b ++ tailL b ws)
def Good (w : S28) : Prop := ∃ l u m, Nx l w.f0 u w.f2 m ∧ w.f1 = S u
theorem Ws.good {p : Nat} {l : List UInt8} {ws : List S28} (h : Ws p l ws) : ∀ w ∈ ws, Good w := by
  induction h with
  | nil => simp
  | cons p l kd N u m b ws hn hx hb _ ih =>
    intro w hw
    rcases List.mem_cons.1 hw with rfl | hw
    · exact ⟨l, u, m, hx, rfl⟩
    · exact ih w hw
theorem Ws.tail_len {p : Nat} {l : List UInt8} {ws : List S28} (r : Bool) (h : Ws p l ws) : (tailL r ws).length ≤ 9 * l.length := by
  induction h with
  | nil => simp [tailL]
  | cons p l kd N u m b ws hn hx hb _ ih =>
    have hp := hx.props
    have h1 := hp.ge; have h2 := hp.le
    have hu : u.length ≤ m := by
      by_cases hk : kd = 2
      · have := hp.text hk; omega
      · have := (hp.plain hk).2; omega
    have hr : (rest r).length ≤ 7 := by cases r <;> simp [rest]
    simp [tailL] at ih ⊢; omega
theorem tail_start {r : Bool} {ws : List S28} (hg : ∀ w ∈ ws, Good w) (hk : ∀ w ∈ ws, w.f0 ≠ 2) : Bl (tailL r ws) 0 := by
  cases ws with
  | nil => exact .nil
  | cons w ws =>
    obtain ⟨l, u, m, hx, e⟩ := hg w (by simp)
    have : w.f1.data.toList = u := by rw [e]
    simp only [tailL, this]
    exact start_sep hx (hk w (by simp)) _
def key (w : S28) : Int × ByteArray × Int := (w.f0, w.f1, w.f2)
theorem tail_ws (r : Bool) : ∀ (ws : List S28) (p : Nat), (∀ w ∈ ws, Good w) → (∀ w ∈ ws, w.f0 ≠ 2) → ∃ ws', Ws p (tailL r ws) ws' ∧ ws'.map key = ws.map key
  | [], p, _, _ => ⟨[], .nil p, rfl⟩
  | w :: ws, p, hg, hk => by
    obtain ⟨l, u, m, hx, e⟩ := hg w (by simp)
    have hu : w.f1.data.toList = u := by rw [e]
    have hk0 := hk w (by simp)
    have ht := tail_start (r := r) (ws := ws) (fun w hw => hg w (by simp [hw])) (fun w hw => hk w (by simp [hw]))
    have hb : Bl (32 :: (rest r ++ tailL r ws)) (1 + (rest r).length) := by
      cases r with
      | false => exact .b 32 _ 0 rfl ht
      | true =>
        have h10 : Bl (10 :: tailL true ws) 1 := .b 10 _ 0 rfl ht
        have := Bl.rem [47, 47, 32, 39, 32, 123] (tailL true ws) 1 (by decide) rfl h10
        exact .b 32 _ 7 rfl this
    obtain ⟨ws', h1, h2⟩ := tail_ws r ws (p + u.length + (1 + (rest r).length)) (fun w hw => hg w (by simp [hw])) (fun w hw => hk w (by simp [hw]))
    refine ⟨⟨w.f0, S u, w.f2, (p : Int)⟩ :: ws', ?_, ?_⟩
    · simp only [tailL, hu]
      refine .cons p _ w.f0 w.f2 u u.length (1 + (rest r).length) ws' (by simp) (next_sep hx hk0 _) ?_ ?_
      · rw [List.drop_left]; exact hb
      · have : (u ++ 32 :: (rest r ++ tailL r ws)).drop (u.length + (1 + (rest r).length)) = tailL r ws := by
          rw [← List.drop_drop, List.drop_left, Nat.add_comm, List.drop_succ_cons, List.drop_left]
        rw [this]; exact h1
    · simp only [List.map_cons, h2]
      congr 1
      simp [key, e]
theorem words_ok {s : List UInt8} {b : Nat} {ws : List S28} (h : s.length ≤ 8000) (hb : Bl s b) (hw : Ws b (s.drop b) ws) : PL.Ev (fun k => lex_Words.f k (S s)) (ws, 0, 0) := by
  have hble := hb.le
  have e3 : (s.take b).length = b := by simp; omega
  have hR := words_l0 hw (s.take b) [] e3.symm (by simp; omega) (by simp)
  rw [List.take_append_drop, e3, List.nil_append] at hR
  refine PL.Ev.congr (g := fun k => (lex_blank.f k (S s)).bind fun t145 => (lex_Words.l0 k (S s) [] t145)) (fun k => ?_) (PL.Ev.bind (blank_f hb (by omega)) hR)
  unfold lex_Words.f
  rw [if_neg (by rw [S_size]; omega)]
theorem rd_at (l : List S28) (i : Nat) (h : i < l.length) : rd_T28 l (i : Int) = l[i] := by
  unfold rd_T28
  rw [Int.toNat_natCast]; simp [List.getD, h]
theorem same_l1 {W V : List S28} (h : V.map key = W.map key) (hl : W.length ≤ 1000000) : ∀ (n i : Nat), W.length - i = n → i ≤ W.length → PL.Ev (fun k => affluxlaw11_LexSpaces.l1 k W V (i : Int)) true
  | 0, i, hn, hi => by
    refine PL.Ev.succ (g := fun _ => some true) (fun k => ?_) (PL.Ev.always fun k => rfl)
    rw [affluxlaw11_LexSpaces.l1, if_neg (by omega), awake_t]; rfl
  | n + 1, i, hn, hi => by
    have hlen : V.length = W.length := by have := congrArg List.length h; simpa using this
    have hW : i < W.length := by omega
    have hV : i < V.length := by omega
    have hk : key V[i] = key W[i] := by
      have := congrArg (fun l => l[i]?) h
      simp only [List.getElem?_map, List.getElem?_eq_getElem hW, List.getElem?_eq_getElem hV, Option.map_some, Option.some.injEq] at this
      exact this
    simp only [key, Prod.mk.injEq] at hk
    have ih := same_l1 h hl n (i + 1) (by omega) (by omega)
    refine PL.Ev.succ (fun k => ?_) ih
    rw [affluxlaw11_LexSpaces.l1, if_pos (by omega), if_pos (by omega), if_pos (by omega), rd_at W i hW, rd_at V i hV, if_pos hk.1, if_pos (by rw [hk.2.1]), if_pos hk.2.2]
    congr 1
    unfold wrap64; omega
theorem S_app (a b : List UInt8) : S a ++ S b = S (a ++ b) := by
  have : (S a ++ S b).data = (S (a ++ b)).data := by simp
  cases h1 : S a ++ S b; cases h2 : S (a ++ b)
  rw [h1, h2] at this; simpa using this
theorem tail_snoc (r : Bool) (w : S28) : ∀ pre : List S28, tailL r (pre ++ [w]) = tailL r pre ++ (w.f1.data.toList ++ 32 :: rest r)
  | [] => by simp [tailL]
  | a :: pre => by simp [tailL, tail_snoc r w pre]
theorem loop_l0 {r : Bool} {W : List S28} (hW : W.length ≤ 1000000) (hlen : ∀ pre post, W = pre ++ post → (tailL r pre).length ≤ 1000000)
    (hfin : (∀ w ∈ W, w.f0 ≠ 2) → PL.Ev (fun k => (lex_Words.f k (S (tailL r W))).bind fun bt184 => (if bt184.2.2 = 0 then (affluxlaw11_LexSpaces.j2 k W bt184.1 ((bt184.1.length : Int) != (W.length : Int))) else (affluxlaw11_LexSpaces.j2 k W bt184.1 true))) true) :
    ∀ (ws pre : List S28), W = pre ++ ws → (∀ w ∈ pre, w.f0 ≠ 2) → PL.Ev (fun k => affluxlaw11_LexSpaces.l0 k r W (S (tailL r pre)) (pre.length : Int)) true
  | [], pre, e, hk => by
    rw [List.append_nil] at e
    subst e
    refine PL.Ev.succ (fun k => ?_) (hfin hk)
    rw [affluxlaw11_LexSpaces.l0, if_neg (by omega)]
  | w :: ws, pre, e, hk => by
    have hlt : pre.length < W.length := by rw [e]; simp
    have hrd : rd_T28 W (pre.length : Int) = w := by
      rw [e]; unfold rd_T28; rw [Int.toNat_natCast]; simp [List.getD]
    by_cases h2 : w.f0 = 2
    · refine PL.Ev.succ (g := fun _ => some true) (fun k => ?_) (PL.Ev.always fun k => rfl)
      rw [affluxlaw11_LexSpaces.l0, if_pos (by omega), if_pos (by omega), hrd, if_pos h2, awake_t]; rfl
    · have ih := loop_l0 hW hlen hfin ws (pre ++ [w]) (by rw [e]; simp) (fun x hx => by
        rcases List.mem_append.1 hx with hx | hx
        · exact hk x hx
        · rw [List.mem_singleton.1 hx]; exact h2)
      have hl2 := hlen (pre ++ [w]) ws (by rw [e]; simp)
      rw [tail_snoc] at ih hl2
      simp at hl2
      have hw1 : w.f1 = S w.f1.data.toList := (S_eq _).symm
      have hs1 : w.f1.size = w.f1.data.size := rfl
      have hL : w.f1.data.toList.length = w.f1.data.size := Array.length_toList
      refine PL.Ev.succ (fun k => ?_) ih
      rw [affluxlaw11_LexSpaces.l0, if_pos (by omega), if_pos (by omega), hrd, if_neg h2]
      have e1 : S (tailL r pre) ++ w.f1 = S (tailL r pre ++ w.f1.data.toList) := by rw [← S_app, S_eq]
      have e2 : S (tailL r pre ++ w.f1.data.toList) ++ (⟨#[32]⟩ : ByteArray) = S ((tailL r pre ++ w.f1.data.toList) ++ [32]) := S_app _ [32]
      have e4 : wrap64 ((pre.length : Int) + 1) = ((pre ++ [w]).length : Int) := by
        rw [wrap_in (by omega) (by omega)]; simp
      rw [e1, e2, e4, if_pos (by rw [S_size, hs1]; omega), if_pos (by rw [S_size, List.length_append, hL]; omega)]
      cases r with
      | true =>
        have e3 : S ((tailL true pre ++ w.f1.data.toList) ++ [32]) ++ (⟨#[47, 47, 32, 39, 32, 123, 10]⟩ : ByteArray) = S (((tailL true pre ++ w.f1.data.toList) ++ [32]) ++ [47, 47, 32, 39, 32, 123, 10]) := S_app _ [47, 47, 32, 39, 32, 123, 10]
        rw [if_pos rfl, if_pos (by rw [S_size, List.length_append, List.length_append, hL, List.length_singleton]; omega), e3]
        simp [rest]
      | false =>
        rw [if_neg (by decide)]
        simp [rest]
theorem lexSpaces : affluxlaw11_LexSpaces.Pure := by
  intro s r hs
  rw [← S_eq s]
  suffices h : PL.Ev (fun k => affluxlaw11_LexSpaces.f k (S s.data.toList) r) true by
    obtain ⟨K, hK⟩ := h
    exact ⟨K, hK K (Nat.le_refl _)⟩
  have j0t : ∀ W, PL.Ev (fun k => affluxlaw11_LexSpaces.j0 k r W true) true := by
    intro W
    refine PL.Ev.succ (g := fun _ => some true) (fun k => ?_) (PL.Ev.always fun k => rfl)
    rw [affluxlaw11_LexSpaces.j0, if_pos rfl, awake_t]; rfl
  rcases words_f s.data.toList with ⟨a, e, he, hw⟩ | ⟨hl, b, ws, hb, hws, hw⟩
  · refine PL.Ev.bind hw (PL.Ev.congr (fun k => ?_) (j0t []))
    rw [if_neg he]
  · by_cases h5 : 500 < s.data.toList.length
    · refine PL.Ev.bind hw (PL.Ev.congr (fun k => ?_) (j0t ws))
      rw [if_pos rfl, decide_eq_true (by rw [S_size]; omega)]
    · have hble := hb.le
      have htl : (tailL r ws).length ≤ 4500 := by
        have := Ws.tail_len r hws
        simp at this; simp at h5; omega
      have hwl : ws.length ≤ 500 := by
        have := hws.len
        simp at this; simp at h5; omega
      have hgood := Ws.good hws
      refine PL.Ev.bind hw (PL.Ev.congr (g := fun k => affluxlaw11_LexSpaces.j0 k r ws false) (fun k => ?_) ?_)
      · rw [if_pos rfl, decide_eq_false (by rw [S_size]; omega)]
      · refine PL.Ev.succ (fun k => ?_) (loop_l0 (r := r) (W := ws) (by omega) (fun pre post e => ?_) (fun hk => ?_) ws [] rfl (by simp))
        · rw [affluxlaw11_LexSpaces.j0, if_neg (by decide)]; rfl
        · have : (tailL r ws).length = (tailL r pre).length + (tailL r post).length := by
            rw [e]
            clear e
            induction pre with
            | nil => simp [tailL]
            | cons a pre ih => simp [tailL, ih]; omega
          omega
        · obtain ⟨ws', h1, h2⟩ := tail_ws r ws 0 hgood hk
          have hlen : ws'.length = ws.length := by have := congrArg List.length h2; simpa using this
          refine PL.Ev.bind (words_ok (by omega) (tail_start hgood hk) (by simpa using h1)) ?_
          have s1 := same_l1 h2 (by omega) _ 0 rfl (by omega)
          refine PL.Ev.congr (g := fun k => affluxlaw11_LexSpaces.j2 k ws ws' false) (fun k => ?_) (PL.Ev.succ (fun k => ?_) s1)
          · rw [if_pos rfl]
            congr 1
            simp [hlen]
          · rw [affluxlaw11_LexSpaces.j2, if_neg (by decide)]; rfl
end Go.Proofs.Ytchjlcchggeonaa.PN
