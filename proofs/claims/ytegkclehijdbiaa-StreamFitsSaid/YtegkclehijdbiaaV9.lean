import Derived.Test.YtegkclehijdbiaaV8
set_option linter.unusedSimpArgs false
set_option linter.unusedVariables false
namespace Go.Proofs.Ytegkclehijdbiaa.V9
open Go.RowKit Go.Proofs.YtegkclehijdbiaaW.PrintWords Go.Proofs.YtegkclehijdbiaaW.PrintLast Go.Proofs.Ytegkclehijdbiaa.V1 Go.Proofs.Ytegkclehijdbiaa.V2 Go.Proofs.Ytegkclehijdbiaa.V3 Go.Proofs.Ytegkclehijdbiaa.V4 Go.Proofs.Ytegkclehijdbiaa.V5 Go.Proofs.Ytegkclehijdbiaa.V6 Go.Proofs.Ytegkclehijdbiaa.V8

def FO (V w' : World) (g : Nat) (B : Option Addr) (n d : Nat) (cs : List Cl) : Prop := V.heap.size ≤ g ∧ w'.heap[g]? = some (.cells #[.string ⟨#[]⟩, .slice none 0 0] 111 (0, 0)) ∧ RdC w' B n cs ∧ n ≤ d ∧ d ≤ 9223372036854775807 ∧ Below V.heap.size V w'
theorem rdC_set {w : World} {g n : Nat} {B : Option Addr} {cs : List Cl} {a : ByteArray} (h : RdC w B n cs) (hg : w.heap[g]? = some (.cells #[.string a, .slice none 0 0] 111 (0, 0))) (u v : Value) : RdC ((w.setCell ⟨g, 0, none⟩ u).setCell ⟨g, 1, none⟩ v) B n cs := by
  refine ⟨h.1, h.2.1, fun hn => ?_⟩
  obtain ⟨g', o, e, hc⟩ := h.2.2 hn
  refine ⟨g', o, e, fun i hi => ?_⟩
  obtain ⟨c0, c1, hf⟩ := hc i hi
  have hne : g ≠ g' := by
    rintro rfl
    rw [blk_cell hg] at c1
    rcases Nat.eq_zero_or_pos (o + i * 2) with h0 | h0
    · rw [h0] at c1; simp at c1
    · have h1 := (Array.getElem?_eq_some_iff.1 c1).1
      simp at h1; omega
  exact ⟨(World.cell?_setCell_far _ _ _ _ hne).trans ((World.cell?_setCell_far _ _ _ _ hne).trans c0), (World.cell?_setCell_far _ _ _ _ hne).trans ((World.cell?_setCell_far _ _ _ _ hne).trans c1), hf⟩
theorem results_row_tmp {P : Program} {fn : Func} {p u : Tmp} {ty : TypeId} (h : fn.results = #[.cell p ty, .tmp u]) (tmps : Array Value) (w : World) (g : Nat) (t : TypeId) (cs : Array Value) (fr : Nat × Nat) (d : TypeDesc)
    (hp : tmps.getD p undef = .pointer (some ⟨g, 0, none⟩)) (hg : w.heap[g]? = some (.cells cs t fr))
    (hu : P.underlying ty = some d) (hd : (match d with | .struct _ | .array _ _ => true | _ => false) = true) (hi : (P.info? ty).map (·.size) = some cs.size) :
    (results fn tmps).run P w = .ok (.tuple #[.agg cs, tmps.getD u undef]) w := by
  have hp' : tmps[p]?.getD undef = .pointer (some ⟨g, 0, none⟩) := by simpa using hp
  simp [results, h, hp', asAddr, run_loadVar_row w g t ty cs fr d hg hu hd hi]
theorem bodyPost_num {P : Program} {fn : Func} {R : Ending → World → Prop} {a : Act} {w : World} (hd : a.defers = []) (h : ∃ v, (results fn a.tmps).run P w = .ok v w ∧ R (.returned v) w) : bodyPost P fn R .ret a w := ⟨hd, h⟩
/-- What open answers. -/
def OpR (w : World) (nm : ByteArray) (n : Nat) (cs : List Cl) (e : Ending) (w' : World) : Prop :=
  (rightB nm cs = false ∧ e = .returned (.tuple #[.agg #[.string ⟨#[]⟩, .slice none 0 0], .int .i64 1]) ∧ Below w.heap.size w w') ∨
  (rightB nm cs = true ∧ ∃ B d, e = .returned (.tuple #[.agg #[.string nm, .slice B n d], .int .i64 0]) ∧ RdC w' B n cs ∧ n ≤ d ∧ d ≤ 9223372036854775807 ∧ Below w.heap.size w w')

set_option maxRecDepth 8000 in
set_option maxHeartbeats 2000000 in
theorem open64 (nm : ByteArray) (A : Option Addr) (n c : Nat) (cs : List Cl) (w : World) (hnm : nm.size ≤ 9223372036854775807) (hc : RdC w A n cs) (hn : n ≤ 1000000) : Calls Try.prog 64 #[.agg #[.string nm, .slice A n c]] w (OpR w nm n cs) := by
  go_enter Try.func64, Try.ntmps64
  go_upto_region 1 with fail
  have f0 : ((w.alloc (.cells #[.string nm, .slice A n c] 24)).alloc (.cells #[.string ⟨#[]⟩, .slice none 0 0] 111)).cell? ⟨w.heap.size, 0, none⟩ = some (.string nm) := by go_simp
  have f1 : ((w.alloc (.cells #[.string nm, .slice A n c] 24)).alloc (.cells #[.string ⟨#[]⟩, .slice none 0 0] 111)).cell? ⟨w.heap.size, 1, none⟩ = some (.slice A n c) := by go_simp
  have e2 : Hid (((w.alloc (.cells #[.string nm, .slice A n c] 24)).alloc (.cells #[.string ⟨#[]⟩, .slice none 0 0] 111)).heap[w.heap.size + 1]? = some (.cells #[.string ⟨#[]⟩, .slice none 0 0] 111 (0, 0))) := get_new _ _ _ (by simp)
  have P0 : Below w.heap.size w ((w.alloc (.cells #[.string nm, .slice A n c] 24)).alloc (.cells #[.string ⟨#[]⟩, .slice none 0 0] 111)) := by go_grown
  have hc := rdC_below hc P0
  generalize (w.alloc (.cells #[.string nm, .slice A n c] 24)).alloc (.cells #[.string ⟨#[]⟩, .slice none 0 0] 111) = V at *
  refine start_ (n := 9) (S := fun w' => w'.cell? ⟨w.heap.size, 0, none⟩ = some (.string nm) ∧ w'.cell? ⟨w.heap.size, 1, none⟩ = some (.slice A n c)) (ds := [8]) #[false, false, false, false, false, false, false, false, false] (by kernel_rfl) rfl rfl ⟨f0, f1⟩ (fun hHeld => ?_)
  have PP : Below V.heap.size V V.drew := (Below.refl _ _).drew
  have HC := rdC_below hc PP
  generalize V.drew = VD at hHeld PP HC ⊢
  refine pure_ (i := 0) (N := some 5) (v := ?_) (a' := ?_) #[true, false, false, false, false, false, false, false, false] rfl rfl (by kernel_rfl) (fun _ _ _ h => h) (Or.inl ⟨by rfl, ?_⟩) ?_ ?_
  rotate_left
  · intro w'
    go_simp
    with_reducible rfl
  rotate_left
  · simp only [Act.put, List.setIfInBounds_toArray, List.set_cons_zero, List.set_cons_succ, i64_w, i32_w]
    rfl
  refine pure_ (i := 2) (N := some 7) (v := ?_) (a' := ?_) #[true, false, true, false, false, false, false, false, false] rfl rfl (by kernel_rfl) (fun _ _ _ h => h) (Or.inl ⟨by rfl, ?_⟩) ?_ ?_
  rotate_left
  · intro w'
    go_simp
    with_reducible rfl
  rotate_left
  · simp only [Act.put, List.setIfInBounds_toArray, List.set_cons_zero, List.set_cons_succ, i64_w, i32_w]
    rfl
  refine take_ (i := 1) (N := some 6) (v := ?_) (a' := ?_) #[true, true, true, false, false, false, false, false, false] rfl rfl (by kernel_rfl) (fun _ _ _ h => h) (Or.inl ⟨by rfl, ?_⟩) hHeld ?_ ?_
  rotate_left
  · rintro w' ⟨s0, s1⟩
    go_simp
    with_reducible rfl
  rotate_left
  · simp only [Act.put, List.setIfInBounds_toArray, List.set_cons_zero, List.set_cons_succ, i64_w, i32_w]
    rfl
  refine take_ (i := 3) (N := some 8) (v := ?_) (a' := ?_) #[true, true, true, true, false, false, false, false, false] rfl rfl (by kernel_rfl) (fun _ _ _ h => h) (Or.inl ⟨by rfl, ?_⟩) hHeld ?_ ?_
  rotate_left
  · rintro w' ⟨s0, s1⟩
    go_simp
    with_reducible rfl
  rotate_left
  · simp only [Act.put, List.setIfInBounds_toArray, List.set_cons_zero, List.set_cons_succ, i64_w, i32_w]
    rfl
  refine join_ (σ := Option Addr × Nat × Nat) 1 #[true, true, true, true, true, true, true, true, false] (fun s => [(9, .slice s.1 n s.2.1), (10, .agg #[.string nm, .slice s.1 n s.2.1]), (11, .agg #[.string nm, .slice s.1 n s.2.1]), (4, .pointer (some ⟨s.2.2, 0, none⟩))]) (fun s w' => FO V w' s.2.2 s.1 n s.2.1 cs) ?_ ?_
  rotate_left
  · intro hCont
    refine two_ (i := 4) (j := 7) (Ni := some 9) (Nj := some 4) #[true, true, true, true, true, false, false, false, false] #[true, true, true, true, false, false, false, true, false] rfl rfl rfl rfl (by kernel_rfl) (by decide) (by decide) (fun K hK => ?_) (fun K hK => ?_)
    · skip
      refine goes_ Try.func93 (by kernel_rfl) rfl #[.slice A n c] (by rfl) rfl rfl (by simp only [List.map_toArray, List.map_cons, List.map_nil]; rfl) ?_
      with_reducible refine (clone93 A n c cs _ HC hn).mono ?_
      rintro e U4 ⟨B_, d_, rfl, RC4, nd_, dm_, BB4⟩
      refine ⟨_, rfl, ?_⟩
      have PP4 : Below V.heap.size V U4 := PP.trans (BB4.mono PP.size)
      refine hK.out _ _ ⟨(pw_cell_below PP4 f0), (pw_cell_below PP4 f1)⟩ (fun hHeld => ?_)
      clear hK K
      refine norm_ (a' := ?_) ?_ ?_
      rotate_left
      · show Act.put _ (some 9) _ = _
        simp only [Act.put, List.setIfInBounds_toArray, List.set_cons_zero, List.set_cons_succ, i64_w, i32_w]
        rfl
      refine pure_ (i := 5) (N := some 10) (v := ?_) (a' := ?_) #[true, true, true, true, true, true, false, false, false] rfl rfl (by kernel_rfl) (fun _ _ _ h => h) (Or.inl ⟨by rfl, ?_⟩) ?_ ?_
      rotate_left
      · intro w'
        go_simp
        with_reducible rfl
      rotate_left
      · simp only [Act.put, List.setIfInBounds_toArray, List.set_cons_zero, List.set_cons_succ, i64_w, i32_w]
        rfl
      refine pure_ (i := 6) (N := some 11) (v := ?_) (a' := ?_) #[true, true, true, true, true, true, true, false, false] rfl rfl (by kernel_rfl) (fun _ _ _ h => h) (Or.inl ⟨by rfl, ?_⟩) ?_ ?_
      rotate_left
      · intro w'
        go_simp
        with_reducible rfl
      rotate_left
      · simp only [Act.put, List.setIfInBounds_toArray, List.set_cons_zero, List.set_cons_succ, i64_w, i32_w]
        rfl
      refine one_ (i := 7) (N := some 4) #[true, true, true, true, true, true, true, true, false] rfl rfl (by kernel_rfl) (by decide) (fun K hK => ?_)
      refine value_ (w1 := ?_) (v := ?_) (by rfl) rfl ?_ ?_
      rotate_left 2
      · go_simp
        constructor
        · rfl
        · rfl
      have BB47 : Below U4.heap.size U4 (U4.alloc (.cells #[.string ⟨#[]⟩, .slice none 0 0] 111)) := (Below.refl _ _).alloc (Nat.le_refl _) _
      have PP47 : Below V.heap.size V (U4.alloc (.cells #[.string ⟨#[]⟩, .slice none 0 0] 111)) := PP4.trans (BB47.mono PP4.size)
      have GA47 : (U4.alloc (.cells #[.string ⟨#[]⟩, .slice none 0 0] 111)).heap[U4.heap.size]? = some (.cells #[.string ⟨#[]⟩, .slice none 0 0] 111 (0, 0)) := get_new _ _ _ rfl
      have ZZ47 : V.heap.size ≤ U4.heap.size := PP4.size
      have RC47 := rdC_below RC4 BB47
      refine hK.out _ _ ⟨(pw_cell_below PP47 f0), (pw_cell_below PP47 f1)⟩ (fun hHeld => ?_)
      clear hK K
      refine norm_ (a' := ?_) ?_ ?_
      rotate_left
      · show Act.put _ (some 4) _ = _
        simp only [Act.put, List.setIfInBounds_toArray, List.set_cons_zero, List.set_cons_succ, i64_w, i32_w]
        rfl
      exact norm_ (by simp only [putAll, Act.put, List.setIfInBounds_toArray, List.set_cons_zero, List.set_cons_succ]) (hCont (B_, d_, U4.heap.size) _ ⟨ZZ47, GA47, RC47, nd_, dm_, PP47⟩)
    · skip
      refine value_ (w1 := ?_) (v := ?_) (by rfl) rfl ?_ ?_
      rotate_left 2
      · go_simp
        constructor
        · rfl
        · rfl
      have BB7 : Below VD.heap.size VD (VD.alloc (.cells #[.string ⟨#[]⟩, .slice none 0 0] 111)) := (Below.refl _ _).alloc (Nat.le_refl _) _
      have PP7 : Below V.heap.size V (VD.alloc (.cells #[.string ⟨#[]⟩, .slice none 0 0] 111)) := PP.trans (BB7.mono PP.size)
      have GA7 : (VD.alloc (.cells #[.string ⟨#[]⟩, .slice none 0 0] 111)).heap[VD.heap.size]? = some (.cells #[.string ⟨#[]⟩, .slice none 0 0] 111 (0, 0)) := get_new _ _ _ rfl
      have ZZ7 : V.heap.size ≤ VD.heap.size := PP.size
      have HC7 := rdC_below HC BB7
      refine hK.out _ _ ⟨(pw_cell_below PP7 f0), (pw_cell_below PP7 f1)⟩ (fun hHeld => ?_)
      clear hK K
      refine norm_ (a' := ?_) ?_ ?_
      rotate_left
      · show Act.put _ (some 4) _ = _
        simp only [Act.put, List.setIfInBounds_toArray, List.set_cons_zero, List.set_cons_succ, i64_w, i32_w]
        rfl
      refine one_ (i := 4) (N := some 9) #[true, true, true, true, true, false, false, true, false] rfl rfl (by kernel_rfl) (by decide) (fun K hK => ?_)
      refine goes_ Try.func93 (by kernel_rfl) rfl #[.slice A n c] (by rfl) rfl rfl (by simp only [List.map_toArray, List.map_cons, List.map_nil]; rfl) ?_
      with_reducible refine (clone93 A n c cs _ HC7 hn).mono ?_
      rintro e U74 ⟨B_, d_, rfl, RC74, nd_, dm_, BB74⟩
      refine ⟨_, rfl, ?_⟩
      have PP74 : Below V.heap.size V U74 := PP7.trans (BB74.mono PP7.size)
      have GA74 := (BB74.block _ (blk_lt GA7)).trans GA7
      have ZZ74 := ZZ7
      refine hK.out _ _ ⟨(pw_cell_below PP74 f0), (pw_cell_below PP74 f1)⟩ (fun hHeld => ?_)
      clear hK K
      refine norm_ (a' := ?_) ?_ ?_
      rotate_left
      · show Act.put _ (some 9) _ = _
        simp only [Act.put, List.setIfInBounds_toArray, List.set_cons_zero, List.set_cons_succ, i64_w, i32_w]
        rfl
      refine pure_ (i := 5) (N := some 10) (v := ?_) (a' := ?_) #[true, true, true, true, true, true, false, true, false] rfl rfl (by kernel_rfl) (fun _ _ _ h => h) (Or.inl ⟨by rfl, ?_⟩) ?_ ?_
      rotate_left
      · intro w'
        go_simp
        with_reducible rfl
      rotate_left
      · simp only [Act.put, List.setIfInBounds_toArray, List.set_cons_zero, List.set_cons_succ, i64_w, i32_w]
        rfl
      refine pure_ (i := 6) (N := some 11) (v := ?_) (a' := ?_) #[true, true, true, true, true, true, true, true, false] rfl rfl (by kernel_rfl) (fun _ _ _ h => h) (Or.inl ⟨by rfl, ?_⟩) ?_ ?_
      rotate_left
      · intro w'
        go_simp
        with_reducible rfl
      rotate_left
      · simp only [Act.put, List.setIfInBounds_toArray, List.set_cons_zero, List.set_cons_succ, i64_w, i32_w]
        rfl
      exact norm_ (by simp only [putAll, Act.put, List.setIfInBounds_toArray, List.set_cons_zero, List.set_cons_succ]) (hCont (B_, d_, VD.heap.size) _ ⟨ZZ74, GA74, RC74, nd_, dm_, PP74⟩)
  rintro ⟨B, d, g4⟩ Y ⟨zz, ga, rc, nd, dm, pp⟩
  have hHeld : Y.cell? ⟨w.heap.size, 0, none⟩ = some (.string nm) ∧ Y.cell? ⟨w.heap.size, 1, none⟩ = some (.slice A n c) := ⟨pw_cell_below pp f0, pw_cell_below pp f1⟩
  dsimp only at ga rc zz nd dm
  refine norm_ (a' := ?_) ?_ ?_
  rotate_left
  · simp only [putAll, Act.put, List.setIfInBounds_toArray, List.set_cons_zero, List.set_cons_succ]
    rfl
  refine last_ (i := 8) (N := none) #[true, true, true, true, true, true, true, true, true] rfl rfl (by kernel_rfl) (by decide) (fun K hK => ?_)
  have j0 : Y.cell? ⟨g4, 0, none⟩ = some (.string ⟨#[]⟩) := (blk_cell ga 0).trans rfl
  have j1 : Y.cell? ⟨g4, 1, none⟩ = some (.slice none 0 0) := (blk_cell ga 1).trans rfl
  have j2 := blk_frozen ga
  have GA := Lib.hid ga
  clear ga
  refine skip_ (w1 := ?_) (by rfl) rfl ?_ ?_
  rotate_left
  · go_simp
    rfl
  refine hK.out _ _ ?_
  clear hK K
  refine done_ (by kernel_rfl) ?_
  have z2 := blk_lt e2.out
  have rcX : RdC ((Y.setCell ⟨g4, 0, none⟩ (.string nm)).setCell ⟨g4, 1, none⟩ (.slice B n d)) B n cs := rdC_set rc GA.out _ _
  have PX : Below V.heap.size V ((Y.setCell ⟨g4, 0, none⟩ (.string nm)).setCell ⟨g4, 1, none⟩ (.slice B n d)) := (pp.setCell zz _).setCell zz _
  have E4 : Hid (((Y.setCell ⟨g4, 0, none⟩ (.string nm)).setCell ⟨g4, 1, none⟩ (.slice B n d)).heap[g4]? = some (.cells #[.string nm, .slice B n d] 111 (0, 0))) := blk_put (blk_put GA.out 0 (.string nm) rfl) 1 (.slice B n d) rfl
  clear j0 j1 j2 hHeld
  go_upto_region 2 with fail
  generalize (Y.setCell ⟨g4, 0, none⟩ (.string nm)).setCell ⟨g4, 1, none⟩ (.slice B n d) = X at *
  have h0 : X.cell? ⟨g4, 0, none⟩ = some (.string nm) := (blk_cell E4.out 0).trans rfl
  have h1 : X.cell? ⟨g4, 1, none⟩ = some (.slice B n d) := (blk_cell E4.out 1).trans rfl
  go_wp2_with fail
  (with_reducible refine (right94 nm B n d cs _ hnm rcX nd dm).mono ?_)
  rintro e Z ⟨rfl, hB⟩
  have PZ := PX.trans (hB.mono PX.size)
  have h0 := pw_cell_below hB h0
  have h1 := pw_cell_below hB h1
  have rcZ := rdC_below rcX hB
  have e2Z := (PZ.block _ z2).trans e2.out
  have k0 : Z.cell? ⟨w.heap.size + 1, 0, none⟩ = some (.string ⟨#[]⟩) := (blk_cell e2Z 0).trans rfl
  have k1 : Z.cell? ⟨w.heap.size + 1, 1, none⟩ = some (.slice none 0 0) := (blk_cell e2Z 1).trans rfl
  have k2 := blk_frozen e2Z
  have K := Lib.hid e2Z
  have BZ := P0.trans (PZ.mono P0.size)
  clear e2Z
  cases hrb : rightB nm cs with
  | false =>
    go_wp2
    have KF : ((Z.setCell ⟨w.heap.size + 1, 0, none⟩ (.string ⟨#[]⟩)).setCell ⟨w.heap.size + 1, 1, none⟩ (.slice none 0 0)).heap[w.heap.size + 1]? = some (.cells #[.string ⟨#[]⟩, .slice none 0 0] 111 (0, 0)) := blk_put (blk_put K.out 0 (.string ⟨#[]⟩) rfl) 1 (.slice none 0 0) rfl
    have m0 : ((Z.setCell ⟨w.heap.size + 1, 0, none⟩ (.string ⟨#[]⟩)).setCell ⟨w.heap.size + 1, 1, none⟩ (.slice none 0 0)).cell? ⟨w.heap.size + 1, 0, none⟩ = some (.string ⟨#[]⟩) := (blk_cell KF 0).trans rfl
    have m1 : ((Z.setCell ⟨w.heap.size + 1, 0, none⟩ (.string ⟨#[]⟩)).setCell ⟨w.heap.size + 1, 1, none⟩ (.slice none 0 0)).cell? ⟨w.heap.size + 1, 1, none⟩ = some (.slice none 0 0) := (blk_cell KF 1).trans rfl
    have BF : Below w.heap.size w ((Z.setCell ⟨w.heap.size + 1, 0, none⟩ (.string ⟨#[]⟩)).setCell ⟨w.heap.size + 1, 1, none⟩ (.slice none 0 0)) := (BZ.setCell (by simp) _).setCell (by simp) _
    have rF : RdC ((Z.setCell ⟨w.heap.size + 1, 0, none⟩ (.string ⟨#[]⟩)).setCell ⟨w.heap.size + 1, 1, none⟩ (.slice none 0 0)) B n cs := rdC_set rcZ K.out _ _
    clear k0 k1 k2 h0 h1 m0 m1
    generalize (Z.setCell ⟨w.heap.size + 1, 0, none⟩ (.string ⟨#[]⟩)).setCell ⟨w.heap.size + 1, 1, none⟩ (.slice none 0 0) = FW at *
    exact bodyPost_num rfl ⟨_, results_row_tmp rfl _ _ (w.heap.size + 1) 111 _ (0, 0) _ rfl KF Try.underlying111 rfl (by kernel_rfl), .inl ⟨hrb, rfl, BF⟩⟩
  | true =>
    go_wp2
    have KF : ((Z.setCell ⟨w.heap.size + 1, 0, none⟩ (.string nm)).setCell ⟨w.heap.size + 1, 1, none⟩ (.slice B n d)).heap[w.heap.size + 1]? = some (.cells #[.string nm, .slice B n d] 111 (0, 0)) := blk_put (blk_put K.out 0 (.string nm) rfl) 1 (.slice B n d) rfl
    have m0 : ((Z.setCell ⟨w.heap.size + 1, 0, none⟩ (.string nm)).setCell ⟨w.heap.size + 1, 1, none⟩ (.slice B n d)).cell? ⟨w.heap.size + 1, 0, none⟩ = some (.string nm) := (blk_cell KF 0).trans rfl
    have m1 : ((Z.setCell ⟨w.heap.size + 1, 0, none⟩ (.string nm)).setCell ⟨w.heap.size + 1, 1, none⟩ (.slice B n d)).cell? ⟨w.heap.size + 1, 1, none⟩ = some (.slice B n d) := (blk_cell KF 1).trans rfl
    have BF : Below w.heap.size w ((Z.setCell ⟨w.heap.size + 1, 0, none⟩ (.string nm)).setCell ⟨w.heap.size + 1, 1, none⟩ (.slice B n d)) := (BZ.setCell (by simp) _).setCell (by simp) _
    have rF : RdC ((Z.setCell ⟨w.heap.size + 1, 0, none⟩ (.string nm)).setCell ⟨w.heap.size + 1, 1, none⟩ (.slice B n d)) B n cs := rdC_set rcZ K.out _ _
    clear k0 k1 k2 h0 h1 m0 m1
    generalize (Z.setCell ⟨w.heap.size + 1, 0, none⟩ (.string nm)).setCell ⟨w.heap.size + 1, 1, none⟩ (.slice B n d) = FW at *
    exact bodyPost_num rfl ⟨_, results_row_tmp rfl _ _ (w.heap.size + 1) 111 _ (0, 0) _ rfl KF Try.underlying111 rfl (by kernel_rfl), .inr ⟨hrb, B, d, rfl, rF, nd, dm, BF⟩⟩
end Go.Proofs.Ytegkclehijdbiaa.V9
