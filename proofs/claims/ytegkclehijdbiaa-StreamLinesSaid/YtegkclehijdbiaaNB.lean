import Derived.Test.YtegkclehijdbiaaRD
import Derived.Test.YtegkclehijdbiaaBY
set_option linter.unusedSimpArgs false
set_option linter.unusedVariables false
namespace Go.Proofs.Ytegkclehijdbiaa.NB
open Go.Proofs.Ytegkclehijdbiaa.V1 Go.Proofs.Ytegkclehijdbiaa.V2 Go.Proofs.Ytegkclehijdbiaa.V3 Go.Proofs.Ytegkclehijdbiaa.VD Go.Proofs.Ytegkclehijdbiaa.N1 Go.Proofs.Ytegkclehijdbiaa.N2 Go.Proofs.Ytegkclehijdbiaa.N3 Go.Proofs.Ytegkclehijdbiaa.CE Go.Proofs.Ytegkclehijdbiaa.CF Go.Proofs.Ytegkclehijdbiaa.CH Go.Proofs.Ytegkclehijdbiaa.W5 Go.Proofs.Ytegkclehijdbiaa.W6 Go.Proofs.Ytegkclehijdbiaa.RD Go.Proofs.Ytegkclehijdbiaa.BY

/-- What Read leaves of a text. -/
def rdB (cols : List Cl) (s : Option (List UInt8)) : List Bt × Option (List UInt8) := moreB cols [] (res (takeS 1048576) 0 s).1.toNat (res (takeS 1048576) 0 s).2
theorem stB_more {cols : List Cl} {l r t : List UInt8} (h : (stB cols (some l)).2 = some r) : stB cols (some (l ++ t)) = ((stB cols (some l)).1, some (r ++ t)) := by
  unfold stB at h
  dsimp only at h
  split at h
  · cases h
  · rename_i hok
    obtain ⟨l1, e1, h1⟩ := res_some h
    obtain ⟨l0, e0, h0⟩ := res_some e1
    cases e0
    have k0 := takeS_more t h0
    have k1 := takeRows_more t h1
    unfold stB
    rw [res_yes (f := takeS 9223372036854775807) k0, res_yes (f := takeRows 32 8) k1]
    dsimp only
    rw [if_neg hok]
theorem moreB_more {cols : List Cl} {t : List UInt8} : ∀ (n : Nat) {acc : List Bt} {l r : List UInt8}, (moreB cols acc n (some l)).2 = some r → (moreB cols acc n (some (l ++ t))).2 = some (r ++ t)
  | 0, acc, l, r, h => by
    simp only [moreB, Option.some.injEq] at h ⊢
    rw [h]
  | n + 1, acc, l, r, h => by
    rw [moreB] at h ⊢
    cases e : (stB cols (some l)).2 with
    | none => rw [e, moreB_none] at h; cases h
    | some q =>
      rw [e] at h
      rw [stB_more e]
      exact moreB_more n h
theorem rdB_more {cols : List Cl} {p r t : List UInt8} (h : (rdB cols (some p)).2 = some r) : (rdB cols (some (p ++ t))).2 = some (r ++ t) := by
  unfold rdB at h ⊢
  cases e : takeS 1048576 p with
  | none => rw [res_no (f := takeS 1048576) e, moreB_none] at h; cases h
  | some q =>
    obtain ⟨n, l⟩ := q
    rw [res_yes (f := takeS 1048576) e] at h
    rw [res_yes (f := takeS 1048576) (takeS_more t e)]
    exact moreB_more _ h
theorem rdB_cut {cols : List Cl} {p t : List UInt8} (ht : t ≠ []) (h : (rdB cols (some (p ++ t))).2 = some []) : ended (rdB cols (some p)).2 = false := by
  cases e : (rdB cols (some p)).2 with
  | none => rfl
  | some r =>
    rw [rdB_more e] at h
    simp only [Option.some.injEq, List.append_eq_nil_iff] at h
    exact absurd h.2 ht
/-- A batch that may be laid and read. -/
def OkB (cols : List Cl) (b : Bt) : Prop := FitB b ∧ 1 ≤ b.id ∧ fitsB cols b.rows = true
theorem fitAll_at {cs : List Cl} {ls : List (List Vl)} {n : Nat} (h : fitAll cs ls n = true) {k : Nat} (hk : k < n) : fitRow cs (el ls k) = true := by
  cases e : fitRow cs (el ls k) with
  | true => rfl
  | false => rw [fitAll_no e hk] at h; cases h
theorem fits_row {cs : List Cl} {rows : List (List Vl)} (h : fitsB cs rows = true) : rows.length ≤ 32 ∧ ∀ r ∈ rows, r.length = cs.length ∧ ∀ v ∈ r, okV v = true := by
  unfold fitsB at h
  rw [Bool.and_eq_true, decide_eq_true_eq] at h
  refine ⟨by omega, fun r hr => ?_⟩
  obtain ⟨i, hi, rfl⟩ := el_mem hr
  have h2 := fitAll_at h.1 hi
  unfold fitRow at h2
  rw [Bool.and_eq_true, Bool.and_eq_true, beq_iff_eq] at h2
  refine ⟨h2.1.1, fun v hv => ?_⟩
  obtain ⟨j, hj, rfl⟩ := el_mem hv
  exact allV_at h2.1.2 hj
theorem stB_enc {cols : List Cl} (hc : cols.length ≤ 8) {b : Bt} (h : OkB cols b) (t : List UInt8) : stB cols (some (encB b ++ t)) = (b, some t) := by
  obtain ⟨id, rows⟩ := b
  obtain ⟨⟨hf, hl, i0, i1⟩, hid, hfit⟩ := h
  dsimp only at hf hl i0 i1 hid hfit
  have hR := fits_row hfit
  have k0 : takeS 9223372036854775807 (encB ⟨id, rows⟩ ++ t) = some (id, encRows rows ++ t) := by
    rw [encB, List.append_assoc, encS]
    have := takeS_enc (n := id.toNat) (most := 9223372036854775807) (by omega) (by omega) (encRows rows ++ t)
    rwa [show ((id.toNat : Nat) : Int) = id by omega] at this
  have k1 : takeRows 32 8 (encRows rows ++ t) = some (rows, t) := takeRows_enc (by omega) (by omega) (fun r hr => ⟨by have := (hR.2 r hr).1; omega, by have := (hR.2 r hr).1; omega, fun v hv => ⟨(hf r hr).1 v hv, (hR.2 r hr).2 v hv⟩⟩) t
  unfold stB
  rw [res_yes (f := takeS 9223372036854775807) k0, res_yes (f := takeRows 32 8) k1]
  dsimp only
  rw [if_neg (by rw [hfit]; simp; omega)]
theorem moreB_enc {cols : List Cl} (hc : cols.length ≤ 8) : ∀ (bs acc : List Bt), (∀ b ∈ bs, OkB cols b) → moreB cols acc bs.length (some (bs.flatMap encB)) = (acc ++ bs, some [])
  | [], acc, _ => by simp [moreB]
  | b :: bs, acc, h => by
    rw [List.length_cons, moreB, List.flatMap_cons, stB_enc hc (h b (by simp)), moreB_enc hc bs _ (fun y hy => h y (by simp [hy]))]
    simp
theorem rdB_enc {cols : List Cl} (hc : cols.length ≤ 8) {bs : List Bt} (hl : bs.length ≤ 40) (h : ∀ b ∈ bs, OkB cols b) : rdB cols (some (encBs bs)) = (bs, some []) := by
  have k0 : takeS 1048576 (encBs bs) = some ((bs.length : Int), bs.flatMap encB) := takeS_enc (by omega) (by omega) _
  unfold rdB
  rw [res_yes (f := takeS 1048576) k0, Int.toNat_natCast, moreB_enc hc bs [] h]
  rfl
theorem okV_size {v : Vl} (h : okV v = true) : v.s.size ≤ 200 := by
  simp only [okV, Bool.or_eq_true, Bool.and_eq_true, beq_iff_eq, decide_eq_true_eq] at h
  rcases h with (⟨_, h⟩ | ⟨_, h⟩) | ⟨_, h⟩
  · rw [emp h]; exact Nat.zero_le _
  · omega
  · rw [emp h]; exact Nat.zero_le _
theorem wt_ok {cols : List Cl} (hc : cols.length ≤ 8) {bs : List Bt} (hl : bs.length ≤ 40) (h : ∀ b ∈ bs, OkB cols b) : wtB bs ≤ 3000000 := by
  have h1 : ∀ (r : List Vl), (∀ v ∈ r, okV v = true) → wt r ≤ 210 * r.length := by
    intro r
    induction r with
    | nil => intro _; simp [wt]
    | cons x r ih =>
      intro hr
      have a := okV_size (hr x (by simp))
      have b := ih (fun y hy => hr y (by simp [hy]))
      simp only [wt, List.map_cons, List.sum_cons, List.length_cons] at b ⊢
      omega
  have h2 : ∀ (rows : List (List Vl)), (∀ r ∈ rows, r.length = cols.length ∧ ∀ v ∈ r, okV v = true) → wtR rows ≤ 1689 * rows.length := by
    intro rows
    induction rows with
    | nil => intro _; simp [wtR]
    | cons x r ih =>
      intro hr
      have a := h1 x (hr x (by simp)).2
      have a2 := (hr x (by simp)).1
      have b := ih (fun y hy => hr y (by simp [hy]))
      simp only [wtR, List.map_cons, List.sum_cons, List.length_cons] at b ⊢
      omega
  have h3 : ∀ (bs : List Bt), (∀ b ∈ bs, OkB cols b) → wtB bs ≤ 54066 * bs.length := by
    intro bs
    induction bs with
    | nil => intro _; simp [wtB]
    | cons x r ih =>
      intro hr
      have q := fits_row (hr x (by simp)).2.2
      have a := h2 x.rows q.2
      have b := ih (fun y hy => hr y (by simp [hy]))
      have q1 := q.1
      simp only [wtB, List.map_cons, List.sum_cons, List.length_cons] at b ⊢
      omega
  have := h3 bs h
  omega
end Go.Proofs.Ytegkclehijdbiaa.NB
