import Derived.Test.YtegkclehijdbiaaMW
set_option linter.unusedSimpArgs false
set_option linter.unusedVariables false
namespace Go.Proofs.Ytegkclehijdbiaa.AW
open Go.RowKit Go.Proofs.YtegkclehijdbiaaW.PrintWords Go.Proofs.Ytegkclehijdbiaa.V1 Go.Proofs.Ytegkclehijdbiaa.V2 Go.Proofs.Ytegkclehijdbiaa.V3 Go.Proofs.Ytegkclehijdbiaa.N1 Go.Proofs.Ytegkclehijdbiaa.N2 Go.Proofs.Ytegkclehijdbiaa.N3 Go.Proofs.Ytegkclehijdbiaa.CA Go.Proofs.Ytegkclehijdbiaa.CB Go.Proofs.Ytegkclehijdbiaa.CC Go.Proofs.Ytegkclehijdbiaa.CD Go.Proofs.Ytegkclehijdbiaa.CE Go.Proofs.Ytegkclehijdbiaa.CF Go.Proofs.Ytegkclehijdbiaa.CG Go.Proofs.Ytegkclehijdbiaa.CH Go.Proofs.Ytegkclehijdbiaa.W1 Go.Proofs.Ytegkclehijdbiaa.W2 Go.Proofs.Ytegkclehijdbiaa.W3 Go.Proofs.Ytegkclehijdbiaa.W4 Go.Proofs.Ytegkclehijdbiaa.W5
open Go.Proofs.YtegkclehijdbiaaW.PrintLast hiding takeB

def aV : List Vl := [⟨1, 1, ⟨#[]⟩⟩, ⟨3, 1, ⟨#[]⟩⟩]
theorem aFit : ∀ x ∈ aV, x.Fit ∧ okV x = true := by
  intro x hx
  simp only [aV, List.mem_cons, List.not_mem_nil, or_false] at hx
  rcases hx with rfl | rfl
  · exact ⟨vfit (by decide) (by decide) (by decide) (by decide) (Nat.zero_le _), ok1 1⟩
  · exact ⟨vfit (by decide) (by decide) (by decide) (by decide) (Nat.zero_le _), by rw [ok3]; rfl⟩
theorem num2 : num 2 = [1, 2] := by simp only [num, sz_pos (show (2 : Nat) ≠ 0 by decide), show (2 : Nat) / 256 = 0 from rfl, sz_zero]; rfl
theorem num1 : num 1 = [1, 1] := by simp only [num, sz_pos (show (1 : Nat) ≠ 0 by decide), show (1 : Nat) / 256 = 0 from rfl, sz_zero]; rfl
theorem num300 : num 300 = [2, 1, 44] := by simp only [num, sz_pos (show (300 : Nat) ≠ 0 by decide), show (300 : Nat) / 256 = 1 from rfl, sz_pos (show (1 : Nat) ≠ 0 by decide), show (1 : Nat) / 256 = 0 from rfl, sz_zero]; rfl
theorem aLit : num 300 ++ encI (-1) ++ encRow aV = [2, 1, 44, 1, 1, 1, 2, 1, 1, 2, 3, 1] := by
  have e1 : okV ⟨1, 1, ⟨#[]⟩⟩ = true := ok1 1
  have e3 : okV ⟨3, 1, ⟨#[]⟩⟩ = true := by rw [ok3]; rfl
  have z1 : zag (-1) = 1 := rfl
  have z2 : zag 1 = 2 := rfl
  simp [encRow, aV, encV, e1, e3, encI, z1, z2, num2, num1, num300]
theorem aRow : encRow aV = [1, 2, 1, 1, 2, 3, 1] := by
  have e1 : okV ⟨1, 1, ⟨#[]⟩⟩ = true := ok1 1
  have e3 : okV ⟨3, 1, ⟨#[]⟩⟩ = true := by rw [ok3]; rfl
  have z2 : zag 1 = 2 := rfl
  simp [encRow, aV, encV, e1, e3, encI, z2, num2, num1]
theorem aTake1 : res (takeS 300) 0 (some (num 300 ++ encI (-1) ++ encRow aV)) = (300, some (encI (-1) ++ encRow aV)) := by
  rw [List.append_assoc]
  exact res_yes (takeS_enc (n := 300) (by decide) (by decide) _)
theorem aTake2 : res takeI 0 (some (encI (-1) ++ encRow aV)) = (-1, some (encRow aV)) := res_yes (takeI_enc (by decide) (by decide) _)
theorem aTake3 : res (takeRow 2) [] (some (encRow aV)) = (aV, some []) := by
  have := takeRow_enc (l := aV) (most := 2) (by decide) (by decide) aFit []
  rw [List.append_nil] at this
  exact res_yes this
set_option maxRecDepth 20000 in
set_option maxHeartbeats 2000000 in
theorem awake27 (w : World) : Calls Try.prog 27 #[] w fun e w' => e = .returned (.bool true) ∧ Below w.heap.size w w' := by
  have P0 : Below w.heap.size w (w.alloc (.cells #[.slice none 0 0] 64)) := by go_grown
  have h0 : Wr (w.alloc (.cells #[.slice none 0 0] 64)) w.heap.size w.heap.size (.slice none 0 0) [] := ⟨heap_alloc_new w _, CF.own_nil _ _ _ _, Nat.le_refl _⟩
  have z0 : (w.alloc (.cells #[.slice none 0 0] 64)).heap.size = w.heap.size + 1 := alloc_sz _ _
  generalize hX : w.alloc (.cells #[.slice none 0 0] 64) = X at *
  have PA : Below X.heap.size X (X.alloc (.cells #[.int .i64 300] 3)) := by go_grown
  have hS := Lib.hid (size34 w.heap.size w.heap.size _ [] (some ⟨X.heap.size, 0, none⟩) 1 1 [300] _ (h0.below PA) (one_n (by decide) (by decide) 3) (out_n h0 _) (by omega) (by simp))
  have K1 := KW.below (g := w.heap.size) (o := (Value.slice none 0 0).ownBlock) PA
  rw [z0] at hS
  have hX := Lib.hid hX
  go_enter Try.func27, Try.ntmps27
  go_wp2_with fail
  (with_reducible refine hS.out.mono ?_)
  rintro e W2 ⟨v2, rfl, hw2, hk2⟩
  replace K1 := K1.trans hk2
  clear hS hk2
  simp only [List.flatMap_cons, List.flatMap_nil, List.append_nil, List.nil_append] at hw2
  have e300 : encS 300 = num 300 := rfl
  rw [e300] at hw2
  have hlA : (num 300).length ≤ 9 := num_len _ (by decide)
  have PB : Below W2.heap.size W2 (W2.alloc (.cells #[.int .i64 (-1)] 2)) := by go_grown
  have hS := Lib.hid (signed35 w.heap.size w.heap.size v2 _ (some ⟨W2.heap.size, 0, none⟩) 1 1 [-1] _ (hw2.below PB) (one_n (by decide) (by decide) 2) (out_n hw2 _) (by omega) (by omega))
  replace K1 := K1.trans (KW.below PB)
  clear PB
  go_wp2_with fail
  (with_reducible refine hS.out.mono ?_)
  rintro e W3 ⟨v3, rfl, hw3, hk3⟩
  replace K1 := K1.trans hk3
  clear hS hk3 hw2
  simp only [List.flatMap_cons, List.flatMap_nil, List.append_nil] at hw3
  have hlB : (encI (-1)).length ≤ 9 := encI_len (by decide) (by decide)
  have PC : Below W3.heap.size W3 (W3.alloc (.cells #[.int .i64 1, .int .i64 1, .string ⟨#[]⟩, .int .i64 3, .int .i64 1, .string ⟨#[]⟩] 56)) := by go_grown
  have eC : (W3.alloc (.cells #[.int .i64 1, .int .i64 1, .string ⟨#[]⟩, .int .i64 3, .int .i64 1, .string ⟨#[]⟩] 56)).heap[W3.heap.size]? = some (.cells #[.int .i64 1, .int .i64 1, .string ⟨#[]⟩, .int .i64 3, .int .i64 1, .string ⟨#[]⟩] 56 (0, 0)) := heap_alloc_new W3 _
  have hrC : RdV (W3.alloc (.cells #[.int .i64 1, .int .i64 1, .string ⟨#[]⟩, .int .i64 3, .int .i64 1, .string ⟨#[]⟩] 56)) (some ⟨W3.heap.size, 0, none⟩) 2 aV := by
    refine ⟨rfl, by omega, fun _ => ⟨_, 0, rfl, fun i hi => ?_⟩⟩
    rcases (show i = 0 ∨ i = 1 by omega) with rfl | rfl
    · exact ⟨(blk_cell eC 0).trans rfl, (blk_cell eC 1).trans rfl, (blk_cell eC 2).trans rfl, (aFit _ (by simp [aV, el])).1⟩
    · exact ⟨(blk_cell eC 3).trans rfl, (blk_cell eC 4).trans rfl, (blk_cell eC 5).trans rfl, (aFit _ (by simp [aV, el])).1⟩
  have hwt : wt aV = 20 := rfl
  have hS := Lib.hid (row38 w.heap.size w.heap.size v3 _ (some ⟨W3.heap.size, 0, none⟩) 2 2 aV _ (hw3.below PC) hrC (fun _ ad e => by cases e; exact Out.new (blk_lt hw3.1) (own_lt hw3.2.1) (Nat.le_refl _) (blk_lt eC)) (by rw [List.length_append]; omega))
  replace K1 := K1.trans (KW.below PC)
  clear PC eC hrC
  go_wp2_with fail
  (with_reducible refine hS.out.mono ?_)
  rintro e W4 ⟨v4, rfl, hw4, hk4⟩
  replace K1 := K1.trans hk4
  clear hS hk4 hw3 hlA hlB hwt e300
  have PW : Below w.heap.size w W4 := P0.trans (K1.to_below (Nat.le_refl _) (fun k e => by simp [Value.ownBlock] at e) (by rw [z0]; omega))
  clear K1 h0 P0 z0 hX PA
  have hlit := aLit
  have hl12 : (num 300 ++ encI (-1) ++ encRow aV).length = 12 := by rw [aLit]; rfl
  have t1 := Lib.hid aTake1
  have t2 := Lib.hid aTake2
  have t3 := Lib.hid aTake3
  generalize num 300 ++ encI (-1) ++ encRow aV = L at *
  have hs40 := Lib.hid (string40 w.heap.size w.heap.size v4 L W4 hw4 (by omega))
  have hL0 : L = [2, 1, 44, 1, 1, 1, 2, 1, 1, 2, 3, 1] := hlit
  replace hL0 := Lib.hid hL0
  clear hlit
  go_wp2_with fail
  (with_reducible refine hs40.out.mono ?_)
  rintro e W5 ⟨rfl, rfl⟩
  have hsz : (⟨L.toArray⟩ : ByteArray).size = 12 := by simp [ByteArray.size]; exact hl12
  have hrd := Lib.hid (read44 ⟨L.toArray⟩ W4 (by omega))
  go_wp2_with fail
  (with_reducible refine hrd.out.mono ?_)
  rintro e W6 ⟨g2, rfl, hg2, hrs, hb6⟩
  have hw6 := hw4.below hb6
  have hs40 := Lib.hid (string40 w.heap.size w.heap.size v4 L W6 hw6 (by omega))
  have hs41 := Lib.hid (len41 w.heap.size w.heap.size v4 L W6 hw6 (by omega))
  have PW6 := PW.trans (hb6.mono PW.size)
  clear hrd
  go_wp2_with fail
  (with_reducible refine hs40.out.mono ?_)
  rintro e W7 ⟨rfl, rfl⟩
  rw [hL0.out]
  go_wp2_with fail
  (with_reducible refine hs41.out.mono ?_)
  rintro e W7 ⟨rfl, rfl⟩
  rw [hl12]
  have hz1 := size71 g2 300 (some L) W6 hrs (by omega) (by omega)
  rw [t1.out] at hz1
  replace hz1 := Lib.hid hz1
  go_wp2_with fail
  (with_reducible refine hz1.out.mono ?_)
  rintro e W7 ⟨rfl, hr7, hk7⟩
  have hz2 := signed47 g2 _ W7 hr7
  rw [t2.out] at hz2
  replace hz2 := Lib.hid hz2
  go_wp2_with fail
  (with_reducible refine hz2.out.mono ?_)
  rintro e W8 ⟨rfl, hr8, hk8⟩
  have hz3 := row72 g2 2 _ W8 hr8 (by omega) (by omega) (fun l e => by cases e; rw [aRow]; decide)
  rw [t3.out] at hz3
  replace hz3 := Lib.hid hz3
  go_wp2_with fail
  (with_reducible refine hz3.out.mono ?_)
  rintro e W9 ⟨A, n, c, rfl, hv9, hn1, hn2, hA9, hr9, hk9⟩
  obtain rfl : n = 2 := hv9.1.symm
  have hz4 := Lib.hid (end73 g2 _ W9 hr9)
  go_wp2_with fail
  (with_reducible refine hz4.out.mono ?_)
  rintro e W10 ⟨rfl, rfl⟩
  have hKK := (hk7.trans hk8).trans hk9
  have PE : Below w.heap.size w W9 := PW6.trans (hKK.to_below (by have := PW.size; omega) PW6.size)
  dsimp only [ended, List.isEmpty]
  go_wp2
  go_ret
  exact ⟨rfl, PE⟩
end Go.Proofs.Ytegkclehijdbiaa.AW
