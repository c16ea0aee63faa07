/- Steps of the proof: ELAwk, FLMak, EGiv, EOpen, EJoin, EBase. No conditions. -/
import Derived.Test.YtdejgaiocjfhjaaGreatDoorCards
import Derived.Test.YtdejgaiocjfhjaaGreatDoorTie
import Derived.WalkKit
import Derived.ProofKit
import Derived.OpenShut
import Derived.Deep.DeepHandedRow
import Derived.Lib.LaidTab
import Derived.LaidSub
import Derived.Stop.LaidErr
import Derived.MakeChecks
import Derived.Lib.SmallJoins
import Derived.Deep.Slices
import Derived.Test.YtdejgaiocjfhjaaGreatDoorZNB1
import Derived.Test.YtdejgaiocjfhjaaGreatDoorZNB2
import Derived.Test.YtdejgaiocjfhjaaGreatDoorZNB3
import Derived.Test.YtdejgaiocjfhjaaGreatDoorZNB4
import Derived.Test.YtdejgaiocjfhjaaGreatDoorZNB5
import Derived.Test.YtdejgaiocjfhjaaGreatDoorZNB6
import Derived.Test.YtdejgaiocjfhjaaGreatDoorZNB7
import Derived.Test.YtdejgaiocjfhjaaGreatDoorZNB8
import Derived.Test.YtdejgaiocjfhjaaGreatDoorZNB9
import Derived.Test.YtdejgaiocjfhjaaGreatDoorZNB10
namespace Go.Proofs.YtdejgaiocjfhjaaGreatDoor
open Go.RowKit
theorem lawOf_any (l h : Txt) (w : World) : Calls Tryz.prog 52 #[txt l, txt h] w fun e w' => e = .returned (encV (l, h)) ∧ Ext w w' := by
  go_enter Tryz.func52, Tryz.ntmps52
  go_wp2
  refine bodyPost_ret (v := .agg #[txt l, txt h]) (by rw [results_cell1 rfl]; go_simp) rfl ?_
  exact ⟨rfl, extA⟩
def shortE (a : Enc) : Bool := decide (a.1.length ≤ 10) && decide (a.2.length ≤ 10)
set_option maxHeartbeats 4000000 in
theorem short2_any (a : Enc) (w : World) : Calls Tryz.prog 87 #[encV a] w fun e w' => e = .returned (.bool (shortE a)) ∧ Ext w w' := by
  obtain ⟨l, h⟩ := a
  have H1 := Lib.hid (fun W => rShort_any l W)
  have H2 := Lib.hid (fun W => rShort_any h W)
  unfold shortE
  dsimp only [encV] at *
  generalize decide (l.length ≤ 10) = b1 at *
  generalize decide (h.length ≤ 10) = b2 at *
  have E : Ext w (w.alloc (.cells #[txt l, txt h] 24)) := extA
  cases b1
  · go_enter Tryz.func87, Tryz.ntmps87
    go_wp2_with (go_at_call 122; refine (H1.out _).mono ?_; rintro e w' ⟨rfl, rfl⟩)
    go_ret
    exact ⟨rfl, E⟩
  · cases b2
    all_goals
      go_enter Tryz.func87, Tryz.ntmps87
      go_wp2_with fail
      refine (H1.out _).mono ?_
      clear H1
      rintro e w' ⟨rfl, hw⟩; obtain rfl := hw.symm; clear hw
      go_wp2_with fail
      refine (H2.out _).mono ?_
      rintro e w' ⟨rfl, hw⟩; obtain rfl := hw.symm; clear hw
      go_wp2_with fail
      go_ret
      exact ⟨rfl, E⟩
theorem ends_is {p q : Rat} {s t : Txt} (hs : fracE s = 0) (ht : fracE t = 0) (es : fracQ s = p) (et : fracQ t = q) : endsR (resQ p) (resQ q) = ((s, t), 0) := by
  rw [made_is hs es, made_is ht et]; rfl
theorem ex2_mul : mulE ([45, 50], [51]) ([53], [55]) = (([45, 49, 52], [50, 49]), 0) := by
  unfold mulE
  rw [if_neg (by decide +kernel)]
  exact ends_is (by decide) (by decide) (by decide +kernel) (by decide +kernel)
theorem ex2_div : divE ([45, 50], [51]) ([53], [55]) = (([45, 50, 47, 53], [51, 47, 53]), 0) := by
  unfold divE
  rw [if_neg (by decide +kernel), if_neg (by decide +kernel)]
  exact ends_is (by decide) (by decide) (by decide +kernel) (by decide +kernel)
theorem ex2_sq : squareE ([45, 50], [51]) = (([48], [57]), 0) := by
  unfold squareE
  rw [if_neg (by decide +kernel)]
  exact ends_is (by decide) (by decide) (by decide +kernel) (by decide +kernel)
theorem ex2_cmp : compareE ([49, 47, 50], [50, 47, 51]) ([51, 47, 52], [49]) = (-1, 0) := by decide +kernel
theorem ex2_cmp2 : compareE ([49, 47, 50], [50, 47, 51]) ([50, 47, 51], [49]) = (0, 0) := by decide +kernel
theorem ex2_meet : meetE ([49, 47, 50], [50, 47, 51]) ([50, 47, 51], [49]) = (([50, 47, 51], [50, 47, 51]), true, 0) := by decide +kernel
set_option maxHeartbeats 16000000 in
set_option maxRecDepth 100000 in
theorem awake2_any (w : World) (hG : Glob w) : Calls Tryz.prog 15 #[] w fun e w' => e = .returned (.bool true) ∧ Ext w w' := by
  have HG := Lib.hid hG
  have X1 : Hid (∀ W, Ext w W → Calls Tryz.prog 24 #[encV ([45, 50], [51]), encV ([53], [55])] W (EncP (([45, 49, 52], [50, 49]), 0) W)) := fun W h => by rw [← ex2_mul]; exact eMul_any _ _ W (HG.out.ext h) ⟨by decide, by decide⟩ ⟨by decide, by decide⟩
  have X2 : Hid (∀ W, Ext w W → Calls Tryz.prog 26 #[encV ([45, 50], [51]), encV ([53], [55])] W (EncP (([45, 50, 47, 53], [51, 47, 53]), 0) W)) := fun W h => by rw [← ex2_div]; exact eDiv_any _ _ W (HG.out.ext h) ⟨by decide, by decide⟩ ⟨by decide, by decide⟩
  have X3 : Hid (∀ W, Ext w W → Calls Tryz.prog 16 #[encV ([45, 50], [51])] W (EncP (([48], [57]), 0) W)) := fun W h => by rw [← ex2_sq]; exact eSquare_any _ W (HG.out.ext h) ⟨by decide, by decide⟩
  have X4 : Hid (∀ W, Ext w W → Calls Tryz.prog 34 #[encV ([49, 47, 50], [50, 47, 51]), encV ([51, 47, 52], [49])] W (IntP (-1) 0 W)) := fun W h => by have k := eCompare_any ([49, 47, 50], [50, 47, 51]) ([51, 47, 52], [49]) W (HG.out.ext h) ⟨by decide, by decide⟩ ⟨by decide, by decide⟩; rw [ex2_cmp] at k; exact k
  have X5 : Hid (∀ W, Ext w W → Calls Tryz.prog 34 #[encV ([49, 47, 50], [50, 47, 51]), encV ([50, 47, 51], [49])] W (IntP 0 0 W)) := fun W h => by have k := eCompare_any ([49, 47, 50], [50, 47, 51]) ([50, 47, 51], [49]) W (HG.out.ext h) ⟨by decide, by decide⟩ ⟨by decide, by decide⟩; rw [ex2_cmp2] at k; exact k
  have X6 : Hid (∀ W, Ext w W → Calls Tryz.prog 28 #[encV ([49, 47, 50], [50, 47, 51]), encV ([50, 47, 51], [49])] W (MeetP (([50, 47, 51], [50, 47, 51]), true, 0) W)) := fun W h => by rw [← ex2_meet]; exact eMeet_any _ _ W (HG.out.ext h) ⟨by decide, by decide⟩ ⟨by decide, by decide⟩
  have X7 := Lib.hid (fun W => ePi_any W)
  have XO := Lib.hid (fun l h W => lawOf_any l h W)
  clear hG
  unfold EncP at X1 X2 X3
  unfold IntP at X4 X5
  unfold MeetP at X6
  dsimp only [encV] at X1 X2 X3 X4 X5 X6 X7 XO
  have E := Ext.refl w
  go_enter Tryz.func15, Tryz.ntmps15
  go_wp2_with fail
  refine (XO.out _ _ _).mono ?_
  rintro e w1 ⟨rfl, hE⟩
  replace E := E.trans hE
  clear hE
  go_wp2_with fail
  refine (XO.out _ _ _).mono ?_
  rintro e w2 ⟨rfl, hE⟩
  replace E := E.trans hE
  clear hE
  have A : EncAt (w2.heap.size) ((w2.alloc (.cells #[txt [45, 50], txt [51]] 24)).alloc (.cells #[txt [53], txt [55]] 24)) [45, 50] [51] := ⟨by go_simp, by go_simp, by go_simp, by go_simp⟩
  have B : EncAt (w2.heap.size + 1) ((w2.alloc (.cells #[txt [45, 50], txt [51]] 24)).alloc (.cells #[txt [53], txt [55]] 24)) [53] [55] := ⟨by go_simp, by go_simp, by go_simp, by go_simp⟩
  have EA : Ext w2 ((w2.alloc (.cells #[txt [45, 50], txt [51]] 24)).alloc (.cells #[txt [53], txt [55]] 24)) := extA
  replace E := E.trans EA
  clear EA
  go_wp2_with fail
  obtain ⟨bB, hbB⟩ : ∃ b, b = w2.heap.size + 1 := ⟨_, rfl⟩
  rw [← hbB] at B ⊢
  obtain ⟨bA, hbA⟩ : ∃ b, b = w2.heap.size := ⟨_, rfl⟩
  rw [← hbA] at A ⊢
  generalize ((w2.alloc (.cells #[txt [45, 50], txt [51]] 24)).alloc (.cells #[txt [53], txt [55]] 24)) = w3 at A B E ⊢
  clear hbA
  clear hbB
  refine (X1.out _ E).mono ?_
  rintro e w4 ⟨rfl, hE⟩
  replace E := E.trans hE
  replace A := A.ext hE
  replace B := B.ext hE
  clear hE
  have A' := A
  have B' := B
  obtain ⟨A0, A1, _, _⟩ := A
  have zA := cell_lt A0
  dsimp only at zA
  obtain ⟨B0, B1, _, _⟩ := B
  have zB := cell_lt B0
  dsimp only at zB
  have M : EncAt (w4.heap.size) (w4.alloc (.cells #[txt [45, 49, 52], txt [50, 49]] 24)) [45, 49, 52] [50, 49] := ⟨by go_simp, by go_simp, by go_simp, by go_simp⟩
  have EA : Ext w4 (w4.alloc (.cells #[txt [45, 49, 52], txt [50, 49]] 24)) := extA
  replace A' := A'.ext EA
  replace B' := B'.ext EA
  replace E := E.trans EA
  clear EA
  go_wp2_with fail
  clear A0 A1 zA B0 B1 zB
  have A := A'
  clear A'
  have B := B'
  clear B'
  obtain ⟨bM, hbM⟩ : ∃ b, b = w4.heap.size := ⟨_, rfl⟩
  rw [← hbM] at M ⊢
  generalize (w4.alloc (.cells #[txt [45, 49, 52], txt [50, 49]] 24)) = w5 at A B M E ⊢
  clear hbM
  refine (X2.out _ E).mono ?_
  rintro e w6 ⟨rfl, hE⟩
  replace E := E.trans hE
  replace A := A.ext hE
  replace B := B.ext hE
  replace M := M.ext hE
  clear hE
  have A' := A
  have B' := B
  have M' := M
  obtain ⟨A0, A1, _, _⟩ := A
  have zA := cell_lt A0
  dsimp only at zA
  obtain ⟨B0, B1, _, _⟩ := B
  have zB := cell_lt B0
  dsimp only at zB
  obtain ⟨M0, M1, _, _⟩ := M
  have zM := cell_lt M0
  dsimp only at zM
  have D : EncAt (w6.heap.size) (w6.alloc (.cells #[txt [45, 50, 47, 53], txt [51, 47, 53]] 24)) [45, 50, 47, 53] [51, 47, 53] := ⟨by go_simp, by go_simp, by go_simp, by go_simp⟩
  have EA : Ext w6 (w6.alloc (.cells #[txt [45, 50, 47, 53], txt [51, 47, 53]] 24)) := extA
  replace A' := A'.ext EA
  replace B' := B'.ext EA
  replace M' := M'.ext EA
  replace E := E.trans EA
  clear EA
  go_wp2_with fail
  clear A0 A1 zA B0 B1 zB M0 M1 zM
  have A := A'
  clear A'
  have B := B'
  clear B'
  have M := M'
  clear M'
  obtain ⟨bD, hbD⟩ : ∃ b, b = w6.heap.size := ⟨_, rfl⟩
  rw [← hbD] at D ⊢
  generalize (w6.alloc (.cells #[txt [45, 50, 47, 53], txt [51, 47, 53]] 24)) = w7 at A B M D E ⊢
  clear hbD
  refine (X3.out _ E).mono ?_
  rintro e w8 ⟨rfl, hE⟩
  replace E := E.trans hE
  replace A := A.ext hE
  replace B := B.ext hE
  replace M := M.ext hE
  replace D := D.ext hE
  clear hE
  have A' := A
  have B' := B
  have M' := M
  have D' := D
  obtain ⟨A0, A1, _, _⟩ := A
  have zA := cell_lt A0
  dsimp only at zA
  obtain ⟨B0, B1, _, _⟩ := B
  have zB := cell_lt B0
  dsimp only at zB
  obtain ⟨M0, M1, _, _⟩ := M
  have zM := cell_lt M0
  dsimp only at zM
  obtain ⟨D0, D1, _, _⟩ := D
  have zD := cell_lt D0
  dsimp only at zD
  have S : EncAt (w8.heap.size) (w8.alloc (.cells #[txt [48], txt [57]] 24)) [48] [57] := ⟨by go_simp, by go_simp, by go_simp, by go_simp⟩
  have EA : Ext w8 (w8.alloc (.cells #[txt [48], txt [57]] 24)) := extA
  replace A' := A'.ext EA
  replace B' := B'.ext EA
  replace M' := M'.ext EA
  replace D' := D'.ext EA
  replace E := E.trans EA
  clear EA
  go_wp2_with fail
  clear A0 A1 zA B0 B1 zB M0 M1 zM D0 D1 zD
  have A := A'
  clear A'
  have B := B'
  clear B'
  have M := M'
  clear M'
  have D := D'
  clear D'
  obtain ⟨bS, hbS⟩ : ∃ b, b = w8.heap.size := ⟨_, rfl⟩
  rw [← hbS] at S ⊢
  generalize (w8.alloc (.cells #[txt [48], txt [57]] 24)) = w9 at A B M D S E ⊢
  clear hbS
  refine (XO.out _ _ _).mono ?_
  rintro e w10 ⟨rfl, hE⟩
  replace E := E.trans hE
  replace A := A.ext hE
  replace B := B.ext hE
  replace M := M.ext hE
  replace D := D.ext hE
  replace S := S.ext hE
  clear hE
  have A' := A
  have B' := B
  have M' := M
  have D' := D
  have S' := S
  obtain ⟨A0, A1, _, _⟩ := A
  have zA := cell_lt A0
  dsimp only at zA
  obtain ⟨B0, B1, _, _⟩ := B
  have zB := cell_lt B0
  dsimp only at zB
  obtain ⟨M0, M1, _, _⟩ := M
  have zM := cell_lt M0
  dsimp only at zM
  obtain ⟨D0, D1, _, _⟩ := D
  have zD := cell_lt D0
  dsimp only at zD
  obtain ⟨S0, S1, _, _⟩ := S
  have zS := cell_lt S0
  dsimp only at zS
  go_wp2_with fail
  clear A0 A1 zA B0 B1 zB M0 M1 zM D0 D1 zD S0 S1 zS
  have A := A'
  clear A'
  have B := B'
  clear B'
  have M := M'
  clear M'
  have D := D'
  clear D'
  have S := S'
  clear S'
  refine (XO.out _ _ _).mono ?_
  rintro e w11 ⟨rfl, hE⟩
  replace E := E.trans hE
  replace A := A.ext hE
  replace B := B.ext hE
  replace M := M.ext hE
  replace D := D.ext hE
  replace S := S.ext hE
  clear hE
  have A' := A
  have B' := B
  have M' := M
  have D' := D
  have S' := S
  obtain ⟨A0, A1, _, _⟩ := A
  have zA := cell_lt A0
  dsimp only at zA
  obtain ⟨B0, B1, _, _⟩ := B
  have zB := cell_lt B0
  dsimp only at zB
  obtain ⟨M0, M1, _, _⟩ := M
  have zM := cell_lt M0
  dsimp only at zM
  obtain ⟨D0, D1, _, _⟩ := D
  have zD := cell_lt D0
  dsimp only at zD
  obtain ⟨S0, S1, _, _⟩ := S
  have zS := cell_lt S0
  dsimp only at zS
  go_wp2_with fail
  clear A0 A1 zA B0 B1 zB M0 M1 zM D0 D1 zD S0 S1 zS
  have A := A'
  clear A'
  have B := B'
  clear B'
  have M := M'
  clear M'
  have D := D'
  clear D'
  have S := S'
  clear S'
  refine (X4.out _ E).mono ?_
  rintro e w12 ⟨rfl, hE⟩
  replace E := E.trans hE
  replace A := A.ext hE
  replace B := B.ext hE
  replace M := M.ext hE
  replace D := D.ext hE
  replace S := S.ext hE
  clear hE
  have A' := A
  have B' := B
  have M' := M
  have D' := D
  have S' := S
  obtain ⟨A0, A1, _, _⟩ := A
  have zA := cell_lt A0
  dsimp only at zA
  obtain ⟨B0, B1, _, _⟩ := B
  have zB := cell_lt B0
  dsimp only at zB
  obtain ⟨M0, M1, _, _⟩ := M
  have zM := cell_lt M0
  dsimp only at zM
  obtain ⟨D0, D1, _, _⟩ := D
  have zD := cell_lt D0
  dsimp only at zD
  obtain ⟨S0, S1, _, _⟩ := S
  have zS := cell_lt S0
  dsimp only at zS
  go_wp2_with fail
  clear A0 A1 zA B0 B1 zB M0 M1 zM D0 D1 zD S0 S1 zS
  have A := A'
  clear A'
  have B := B'
  clear B'
  have M := M'
  clear M'
  have D := D'
  clear D'
  have S := S'
  clear S'
  refine (XO.out _ _ _).mono ?_
  rintro e w13 ⟨rfl, hE⟩
  replace E := E.trans hE
  replace A := A.ext hE
  replace B := B.ext hE
  replace M := M.ext hE
  replace D := D.ext hE
  replace S := S.ext hE
  clear hE
  have A' := A
  have B' := B
  have M' := M
  have D' := D
  have S' := S
  obtain ⟨A0, A1, _, _⟩ := A
  have zA := cell_lt A0
  dsimp only at zA
  obtain ⟨B0, B1, _, _⟩ := B
  have zB := cell_lt B0
  dsimp only at zB
  obtain ⟨M0, M1, _, _⟩ := M
  have zM := cell_lt M0
  dsimp only at zM
  obtain ⟨D0, D1, _, _⟩ := D
  have zD := cell_lt D0
  dsimp only at zD
  obtain ⟨S0, S1, _, _⟩ := S
  have zS := cell_lt S0
  dsimp only at zS
  go_wp2_with fail
  clear A0 A1 zA B0 B1 zB M0 M1 zM D0 D1 zD S0 S1 zS
  have A := A'
  clear A'
  have B := B'
  clear B'
  have M := M'
  clear M'
  have D := D'
  clear D'
  have S := S'
  clear S'
  refine (XO.out _ _ _).mono ?_
  rintro e w14 ⟨rfl, hE⟩
  replace E := E.trans hE
  replace A := A.ext hE
  replace B := B.ext hE
  replace M := M.ext hE
  replace D := D.ext hE
  replace S := S.ext hE
  clear hE
  have A' := A
  have B' := B
  have M' := M
  have D' := D
  have S' := S
  obtain ⟨A0, A1, _, _⟩ := A
  have zA := cell_lt A0
  dsimp only at zA
  obtain ⟨B0, B1, _, _⟩ := B
  have zB := cell_lt B0
  dsimp only at zB
  obtain ⟨M0, M1, _, _⟩ := M
  have zM := cell_lt M0
  dsimp only at zM
  obtain ⟨D0, D1, _, _⟩ := D
  have zD := cell_lt D0
  dsimp only at zD
  obtain ⟨S0, S1, _, _⟩ := S
  have zS := cell_lt S0
  dsimp only at zS
  go_wp2_with fail
  clear A0 A1 zA B0 B1 zB M0 M1 zM D0 D1 zD S0 S1 zS
  have A := A'
  clear A'
  have B := B'
  clear B'
  have M := M'
  clear M'
  have D := D'
  clear D'
  have S := S'
  clear S'
  refine (X5.out _ E).mono ?_
  rintro e w15 ⟨rfl, hE⟩
  replace E := E.trans hE
  replace A := A.ext hE
  replace B := B.ext hE
  replace M := M.ext hE
  replace D := D.ext hE
  replace S := S.ext hE
  clear hE
  have A' := A
  have B' := B
  have M' := M
  have D' := D
  have S' := S
  obtain ⟨A0, A1, _, _⟩ := A
  have zA := cell_lt A0
  dsimp only at zA
  obtain ⟨B0, B1, _, _⟩ := B
  have zB := cell_lt B0
  dsimp only at zB
  obtain ⟨M0, M1, _, _⟩ := M
  have zM := cell_lt M0
  dsimp only at zM
  obtain ⟨D0, D1, _, _⟩ := D
  have zD := cell_lt D0
  dsimp only at zD
  obtain ⟨S0, S1, _, _⟩ := S
  have zS := cell_lt S0
  dsimp only at zS
  go_wp2_with fail
  clear A0 A1 zA B0 B1 zB M0 M1 zM D0 D1 zD S0 S1 zS
  have A := A'
  clear A'
  have B := B'
  clear B'
  have M := M'
  clear M'
  have D := D'
  clear D'
  have S := S'
  clear S'
  refine (XO.out _ _ _).mono ?_
  rintro e w16 ⟨rfl, hE⟩
  replace E := E.trans hE
  replace A := A.ext hE
  replace B := B.ext hE
  replace M := M.ext hE
  replace D := D.ext hE
  replace S := S.ext hE
  clear hE
  have A' := A
  have B' := B
  have M' := M
  have D' := D
  have S' := S
  obtain ⟨A0, A1, _, _⟩ := A
  have zA := cell_lt A0
  dsimp only at zA
  obtain ⟨B0, B1, _, _⟩ := B
  have zB := cell_lt B0
  dsimp only at zB
  obtain ⟨M0, M1, _, _⟩ := M
  have zM := cell_lt M0
  dsimp only at zM
  obtain ⟨D0, D1, _, _⟩ := D
  have zD := cell_lt D0
  dsimp only at zD
  obtain ⟨S0, S1, _, _⟩ := S
  have zS := cell_lt S0
  dsimp only at zS
  go_wp2_with fail
  clear A0 A1 zA B0 B1 zB M0 M1 zM D0 D1 zD S0 S1 zS
  have A := A'
  clear A'
  have B := B'
  clear B'
  have M := M'
  clear M'
  have D := D'
  clear D'
  have S := S'
  clear S'
  refine (XO.out _ _ _).mono ?_
  rintro e w17 ⟨rfl, hE⟩
  replace E := E.trans hE
  replace A := A.ext hE
  replace B := B.ext hE
  replace M := M.ext hE
  replace D := D.ext hE
  replace S := S.ext hE
  clear hE
  have A' := A
  have B' := B
  have M' := M
  have D' := D
  have S' := S
  obtain ⟨A0, A1, _, _⟩ := A
  have zA := cell_lt A0
  dsimp only at zA
  obtain ⟨B0, B1, _, _⟩ := B
  have zB := cell_lt B0
  dsimp only at zB
  obtain ⟨M0, M1, _, _⟩ := M
  have zM := cell_lt M0
  dsimp only at zM
  obtain ⟨D0, D1, _, _⟩ := D
  have zD := cell_lt D0
  dsimp only at zD
  obtain ⟨S0, S1, _, _⟩ := S
  have zS := cell_lt S0
  dsimp only at zS
  go_wp2_with fail
  clear A0 A1 zA B0 B1 zB M0 M1 zM D0 D1 zD S0 S1 zS
  have A := A'
  clear A'
  have B := B'
  clear B'
  have M := M'
  clear M'
  have D := D'
  clear D'
  have S := S'
  clear S'
  refine (X6.out _ E).mono ?_
  rintro e w18 ⟨rfl, hE⟩
  replace E := E.trans hE
  replace A := A.ext hE
  replace B := B.ext hE
  replace M := M.ext hE
  replace D := D.ext hE
  replace S := S.ext hE
  clear hE
  have A' := A
  have B' := B
  have M' := M
  have D' := D
  have S' := S
  obtain ⟨A0, A1, _, _⟩ := A
  have zA := cell_lt A0
  dsimp only at zA
  obtain ⟨B0, B1, _, _⟩ := B
  have zB := cell_lt B0
  dsimp only at zB
  obtain ⟨M0, M1, _, _⟩ := M
  have zM := cell_lt M0
  dsimp only at zM
  obtain ⟨D0, D1, _, _⟩ := D
  have zD := cell_lt D0
  dsimp only at zD
  obtain ⟨S0, S1, _, _⟩ := S
  have zS := cell_lt S0
  dsimp only at zS
  have Y : EncAt (w18.heap.size) (w18.alloc (.cells #[txt [50, 47, 51], txt [50, 47, 51]] 24)) [50, 47, 51] [50, 47, 51] := ⟨by go_simp, by go_simp, by go_simp, by go_simp⟩
  have EA : Ext w18 (w18.alloc (.cells #[txt [50, 47, 51], txt [50, 47, 51]] 24)) := extA
  replace A' := A'.ext EA
  replace B' := B'.ext EA
  replace M' := M'.ext EA
  replace D' := D'.ext EA
  replace S' := S'.ext EA
  replace E := E.trans EA
  clear EA
  go_wp2_with fail
  clear A0 A1 zA B0 B1 zB M0 M1 zM D0 D1 zD S0 S1 zS
  have A := A'
  clear A'
  have B := B'
  clear B'
  have M := M'
  clear M'
  have D := D'
  clear D'
  have S := S'
  clear S'
  obtain ⟨bY, hbY⟩ : ∃ b, b = w18.heap.size := ⟨_, rfl⟩
  rw [← hbY] at Y ⊢
  generalize (w18.alloc (.cells #[txt [50, 47, 51], txt [50, 47, 51]] 24)) = w19 at A B M D S Y E ⊢
  clear hbY
  have hD : Ext w19 w19.drew := extA
  replace E := E.trans hD
  have hS : w19.drew.cell? ⟨bM, 0, none⟩ = some (txt [45, 49, 52]) ∧ w19.drew.cell? ⟨bM, 1, none⟩ = some (txt [50, 49]) ∧ w19.drew.cell? ⟨bD, 0, none⟩ = some (txt [45, 50, 47, 53]) ∧ w19.drew.cell? ⟨bD, 1, none⟩ = some (txt [51, 47, 53]) ∧ w19.drew.cell? ⟨bS, 0, none⟩ = some (txt [48]) ∧ w19.drew.cell? ⟨bS, 1, none⟩ = some (txt [57]) ∧ w19.drew.cell? ⟨bY, 0, none⟩ = some (txt [50, 47, 51]) ∧ w19.drew.cell? ⟨bY, 1, none⟩ = some (txt [50, 47, 51]) := ⟨hD.cell M.c0, hD.cell M.c1, hD.cell D.c0, hD.cell D.c1, hD.cell S.c0, hD.cell S.c1, hD.cell Y.c0, hD.cell Y.c1⟩
  have hw0 : IntKind.i64.wrap 0 = 0 := by decide
  refine wp_region_heldE 99 (fun w' => w'.cell? ⟨bM, 0, none⟩ = some (txt [45, 49, 52]) ∧ w'.cell? ⟨bM, 1, none⟩ = some (txt [50, 49]) ∧ w'.cell? ⟨bD, 0, none⟩ = some (txt [45, 50, 47, 53]) ∧ w'.cell? ⟨bD, 1, none⟩ = some (txt [51, 47, 53]) ∧ w'.cell? ⟨bS, 0, none⟩ = some (txt [48]) ∧ w'.cell? ⟨bS, 1, none⟩ = some (txt [57]) ∧ w'.cell? ⟨bY, 0, none⟩ = some (txt [50, 47, 51]) ∧ w'.cell? ⟨bY, 1, none⟩ = some (txt [50, 47, 51])) (by kernel_rfl) ?_
  clear hD A B M D S Y
  generalize w19.drew = v0 at E hS ⊢
  ((refine eTk 0 ?_); (refine eTk 1 ?_); (refine eTk 2 ?_); (refine eTk 3 ?_); (refine eTk 4 ?_); (refine eTk 5 ?_); (refine eTk 6 ?_); (refine eTk 7 ?_); (refine eTk 8 ?_); (refine eTk 9 ?_); (refine eTk 10 ?_); (refine eTk 11 ?_); (refine eTk 12 ?_); (refine eTk 13 ?_))
  (refine wpAnyE_one (i := 14) (o := ?_) ?_ (by kernel_rfl) (fun K hK => ?_); rotate_left; (focus ((simp only [List.getElem?_toArray, List.getElem?_cons_succ, List.getElem?_cons_zero]; exact rfl))); go_simp; go_at_call 52; refine (XO.out _ _ _).mono ?_; rintro e v1 ⟨rfl, hE⟩; go_wp2_with fail; refine hK.out _ _ ?_ (fun hHeld => ?_); rotate_left; clear hK K; (try simp only [Act.put, List.setIfInBounds_toArray, List.set_cons_zero, List.set_cons_succ]))
  rotate_left
  · exact ⟨hE.cell hS.1, hE.cell hS.2.1, hE.cell hS.2.2.1, hE.cell hS.2.2.2.1, hE.cell hS.2.2.2.2.1, hE.cell hS.2.2.2.2.2.1, hE.cell hS.2.2.2.2.2.2.1, hE.cell hS.2.2.2.2.2.2.2⟩
  replace E := E.trans hE
  replace hS : v1.cell? ⟨bM, 0, none⟩ = some (txt [45, 49, 52]) ∧ v1.cell? ⟨bM, 1, none⟩ = some (txt [50, 49]) ∧ v1.cell? ⟨bD, 0, none⟩ = some (txt [45, 50, 47, 53]) ∧ v1.cell? ⟨bD, 1, none⟩ = some (txt [51, 47, 53]) ∧ v1.cell? ⟨bS, 0, none⟩ = some (txt [48]) ∧ v1.cell? ⟨bS, 1, none⟩ = some (txt [57]) ∧ v1.cell? ⟨bY, 0, none⟩ = some (txt [50, 47, 51]) ∧ v1.cell? ⟨bY, 1, none⟩ = some (txt [50, 47, 51]) := ⟨hE.cell hS.1, hE.cell hS.2.1, hE.cell hS.2.2.1, hE.cell hS.2.2.2.1, hE.cell hS.2.2.2.2.1, hE.cell hS.2.2.2.2.2.1, hE.cell hS.2.2.2.2.2.2.1, hE.cell hS.2.2.2.2.2.2.2⟩
  clear hE hHeld
  ((refine eTk 15 ?_); (refine eTk 16 ?_); (refine eTk 17 ?_); (refine eTk 18 ?_))
  (refine wpAnyE_one (i := 19) (o := ?_) ?_ (by kernel_rfl) (fun K hK => ?_); rotate_left; (focus ((simp only [List.getElem?_toArray, List.getElem?_cons_succ, List.getElem?_cons_zero]; exact rfl))); go_simp; go_at_call 52; refine (XO.out _ _ _).mono ?_; rintro e v2 ⟨rfl, hE⟩; go_wp2_with fail; refine hK.out _ _ ?_ (fun hHeld => ?_); rotate_left; clear hK K; (try simp only [Act.put, List.setIfInBounds_toArray, List.set_cons_zero, List.set_cons_succ]))
  rotate_left
  · exact ⟨hE.cell hS.1, hE.cell hS.2.1, hE.cell hS.2.2.1, hE.cell hS.2.2.2.1, hE.cell hS.2.2.2.2.1, hE.cell hS.2.2.2.2.2.1, hE.cell hS.2.2.2.2.2.2.1, hE.cell hS.2.2.2.2.2.2.2⟩
  replace E := E.trans hE
  replace hS : v2.cell? ⟨bM, 0, none⟩ = some (txt [45, 49, 52]) ∧ v2.cell? ⟨bM, 1, none⟩ = some (txt [50, 49]) ∧ v2.cell? ⟨bD, 0, none⟩ = some (txt [45, 50, 47, 53]) ∧ v2.cell? ⟨bD, 1, none⟩ = some (txt [51, 47, 53]) ∧ v2.cell? ⟨bS, 0, none⟩ = some (txt [48]) ∧ v2.cell? ⟨bS, 1, none⟩ = some (txt [57]) ∧ v2.cell? ⟨bY, 0, none⟩ = some (txt [50, 47, 51]) ∧ v2.cell? ⟨bY, 1, none⟩ = some (txt [50, 47, 51]) := ⟨hE.cell hS.1, hE.cell hS.2.1, hE.cell hS.2.2.1, hE.cell hS.2.2.2.1, hE.cell hS.2.2.2.2.1, hE.cell hS.2.2.2.2.2.1, hE.cell hS.2.2.2.2.2.2.1, hE.cell hS.2.2.2.2.2.2.2⟩
  clear hE hHeld
  ((refine eTk 20 ?_); (refine eTk 21 ?_); (refine eTk 22 ?_); (refine eTk 23 ?_))
  (refine wpAnyE_one (i := 24) (o := ?_) ?_ (by kernel_rfl) (fun K hK => ?_); rotate_left; (focus ((simp only [List.getElem?_toArray, List.getElem?_cons_succ, List.getElem?_cons_zero]; exact rfl))); go_simp; go_at_call 52; refine (XO.out _ _ _).mono ?_; rintro e v3 ⟨rfl, hE⟩; go_wp2_with fail; refine hK.out _ _ ?_ (fun hHeld => ?_); rotate_left; clear hK K; (try simp only [Act.put, List.setIfInBounds_toArray, List.set_cons_zero, List.set_cons_succ]))
  rotate_left
  · exact ⟨hE.cell hS.1, hE.cell hS.2.1, hE.cell hS.2.2.1, hE.cell hS.2.2.2.1, hE.cell hS.2.2.2.2.1, hE.cell hS.2.2.2.2.2.1, hE.cell hS.2.2.2.2.2.2.1, hE.cell hS.2.2.2.2.2.2.2⟩
  replace E := E.trans hE
  replace hS : v3.cell? ⟨bM, 0, none⟩ = some (txt [45, 49, 52]) ∧ v3.cell? ⟨bM, 1, none⟩ = some (txt [50, 49]) ∧ v3.cell? ⟨bD, 0, none⟩ = some (txt [45, 50, 47, 53]) ∧ v3.cell? ⟨bD, 1, none⟩ = some (txt [51, 47, 53]) ∧ v3.cell? ⟨bS, 0, none⟩ = some (txt [48]) ∧ v3.cell? ⟨bS, 1, none⟩ = some (txt [57]) ∧ v3.cell? ⟨bY, 0, none⟩ = some (txt [50, 47, 51]) ∧ v3.cell? ⟨bY, 1, none⟩ = some (txt [50, 47, 51]) := ⟨hE.cell hS.1, hE.cell hS.2.1, hE.cell hS.2.2.1, hE.cell hS.2.2.2.1, hE.cell hS.2.2.2.2.1, hE.cell hS.2.2.2.2.2.1, hE.cell hS.2.2.2.2.2.2.1, hE.cell hS.2.2.2.2.2.2.2⟩
  clear hE hHeld
  ((refine eTk 25 ?_); (refine eTk 26 ?_); (refine eTk 27 ?_); (refine eTk 28 ?_); (refine eTk 29 ?_); (refine eTk 30 ?_); (refine eTk 31 ?_); (refine eTk 32 ?_); (refine eTk 33 ?_); (refine eTk 34 ?_); (refine eTk 35 ?_); (refine eTk 36 ?_); (refine eTk 37 ?_); (refine eTk 38 ?_); (refine eTk 39 ?_))
  (refine wpAnyE_one (i := 40) (o := ?_) ?_ (by kernel_rfl) (fun K hK => ?_); rotate_left; (focus ((simp only [List.getElem?_toArray, List.getElem?_cons_succ, List.getElem?_cons_zero]; exact rfl))); go_simp; go_at_call 52; refine (XO.out _ _ _).mono ?_; rintro e v4 ⟨rfl, hE⟩; go_wp2_with fail; refine hK.out _ _ ?_ (fun hHeld => ?_); rotate_left; clear hK K; (try simp only [Act.put, List.setIfInBounds_toArray, List.set_cons_zero, List.set_cons_succ]))
  rotate_left
  · exact ⟨hE.cell hS.1, hE.cell hS.2.1, hE.cell hS.2.2.1, hE.cell hS.2.2.2.1, hE.cell hS.2.2.2.2.1, hE.cell hS.2.2.2.2.2.1, hE.cell hS.2.2.2.2.2.2.1, hE.cell hS.2.2.2.2.2.2.2⟩
  replace E := E.trans hE
  replace hS : v4.cell? ⟨bM, 0, none⟩ = some (txt [45, 49, 52]) ∧ v4.cell? ⟨bM, 1, none⟩ = some (txt [50, 49]) ∧ v4.cell? ⟨bD, 0, none⟩ = some (txt [45, 50, 47, 53]) ∧ v4.cell? ⟨bD, 1, none⟩ = some (txt [51, 47, 53]) ∧ v4.cell? ⟨bS, 0, none⟩ = some (txt [48]) ∧ v4.cell? ⟨bS, 1, none⟩ = some (txt [57]) ∧ v4.cell? ⟨bY, 0, none⟩ = some (txt [50, 47, 51]) ∧ v4.cell? ⟨bY, 1, none⟩ = some (txt [50, 47, 51]) := ⟨hE.cell hS.1, hE.cell hS.2.1, hE.cell hS.2.2.1, hE.cell hS.2.2.2.1, hE.cell hS.2.2.2.2.1, hE.cell hS.2.2.2.2.2.1, hE.cell hS.2.2.2.2.2.2.1, hE.cell hS.2.2.2.2.2.2.2⟩
  clear hE hHeld
  ((refine eTk 41 ?_); (refine eTk 42 ?_); (refine eTk 43 ?_))
  (refine wpAnyE_one (i := 44) (o := ?_) ?_ (by kernel_rfl) (fun K hK => ?_); rotate_left; (focus ((simp only [List.getElem?_toArray, List.getElem?_cons_succ, List.getElem?_cons_zero]; exact rfl))); go_simp; go_at_call 59; refine (X7.out _).mono ?_; rintro e v5 ⟨rfl, hE⟩; go_wp2_with fail; refine hK.out _ _ ?_ (fun hHeld => ?_); rotate_left; clear hK K; (try simp only [Act.put, List.setIfInBounds_toArray, List.set_cons_zero, List.set_cons_succ]))
  rotate_left
  · exact ⟨hE.cell hS.1, hE.cell hS.2.1, hE.cell hS.2.2.1, hE.cell hS.2.2.2.1, hE.cell hS.2.2.2.2.1, hE.cell hS.2.2.2.2.2.1, hE.cell hS.2.2.2.2.2.2.1, hE.cell hS.2.2.2.2.2.2.2⟩
  replace E := E.trans hE
  replace hS : v5.cell? ⟨bM, 0, none⟩ = some (txt [45, 49, 52]) ∧ v5.cell? ⟨bM, 1, none⟩ = some (txt [50, 49]) ∧ v5.cell? ⟨bD, 0, none⟩ = some (txt [45, 50, 47, 53]) ∧ v5.cell? ⟨bD, 1, none⟩ = some (txt [51, 47, 53]) ∧ v5.cell? ⟨bS, 0, none⟩ = some (txt [48]) ∧ v5.cell? ⟨bS, 1, none⟩ = some (txt [57]) ∧ v5.cell? ⟨bY, 0, none⟩ = some (txt [50, 47, 51]) ∧ v5.cell? ⟨bY, 1, none⟩ = some (txt [50, 47, 51]) := ⟨hE.cell hS.1, hE.cell hS.2.1, hE.cell hS.2.2.1, hE.cell hS.2.2.2.1, hE.cell hS.2.2.2.2.1, hE.cell hS.2.2.2.2.2.1, hE.cell hS.2.2.2.2.2.2.1, hE.cell hS.2.2.2.2.2.2.2⟩
  clear hE hHeld
  (refine wpAnyE_one (i := 45) (o := ?_) ?_ (by kernel_rfl) (fun K hK => ?_); rotate_left; (focus ((simp only [List.getElem?_toArray, List.getElem?_cons_succ, List.getElem?_cons_zero]; exact rfl))); go_simp; go_at_call 52; refine (XO.out _ _ _).mono ?_; rintro e v6 ⟨rfl, hE⟩; go_wp2_with fail; refine hK.out _ _ ?_ (fun hHeld => ?_); rotate_left; clear hK K; (try simp only [Act.put, List.setIfInBounds_toArray, List.set_cons_zero, List.set_cons_succ]))
  rotate_left
  · exact ⟨hE.cell hS.1, hE.cell hS.2.1, hE.cell hS.2.2.1, hE.cell hS.2.2.2.1, hE.cell hS.2.2.2.2.1, hE.cell hS.2.2.2.2.2.1, hE.cell hS.2.2.2.2.2.2.1, hE.cell hS.2.2.2.2.2.2.2⟩
  replace E := E.trans hE
  replace hS : v6.cell? ⟨bM, 0, none⟩ = some (txt [45, 49, 52]) ∧ v6.cell? ⟨bM, 1, none⟩ = some (txt [50, 49]) ∧ v6.cell? ⟨bD, 0, none⟩ = some (txt [45, 50, 47, 53]) ∧ v6.cell? ⟨bD, 1, none⟩ = some (txt [51, 47, 53]) ∧ v6.cell? ⟨bS, 0, none⟩ = some (txt [48]) ∧ v6.cell? ⟨bS, 1, none⟩ = some (txt [57]) ∧ v6.cell? ⟨bY, 0, none⟩ = some (txt [50, 47, 51]) ∧ v6.cell? ⟨bY, 1, none⟩ = some (txt [50, 47, 51]) := ⟨hE.cell hS.1, hE.cell hS.2.1, hE.cell hS.2.2.1, hE.cell hS.2.2.2.1, hE.cell hS.2.2.2.2.1, hE.cell hS.2.2.2.2.2.1, hE.cell hS.2.2.2.2.2.2.1, hE.cell hS.2.2.2.2.2.2.2⟩
  clear hE hHeld
  ((refine eTk 46 ?_); (refine eTk 47 ?_))
  ((refine ePu 48 ?_))
  clear hS
  refine wpAnyE_done (by kernel_rfl) ?_ _
  go_wp2_with fail
  go_ret
  exact ⟨rfl, E⟩
end Go.Proofs.YtdejgaiocjfhjaaGreatDoor
namespace Go.Proofs.YtdejgaiocjfhjaaGreatDoor
open Go.RowKit
open Go.Lib (decDigits itoa)
def TrueP (w : World) (e : Ending) (w' : World) : Prop := e = .returned (.bool true) ∧ Ext w w'
end Go.Proofs.YtdejgaiocjfhjaaGreatDoor
namespace Go.Proofs.YtdejgaiocjfhjaaGreatDoor
open Go.ChangeShapes Go.WideShapes Go.ChangeAt Go.RowKit
theorem own : ownKnob Tryz.prog.godebug = none := by kernel_rfl
theorem gTab : Tryz.prog.globalNamed "internal/strconv.uint64pow10" = some 1 := by kernel_rfl
theorem gTabT : (Tryz.prog.globals[1]?).map (·.type) = some 236 := by kernel_rfl
theorem cellsTab : Tryz.prog.cellsOf 236 = 20 := by kernel_rfl
theorem cellsU64 : Tryz.prog.cellsOf 161 = 1 := by kernel_rfl
theorem gRng : Tryz.prog.globalNamed "strconv.ErrRange" = some 5 := by kernel_rfl
theorem gRngT : (Tryz.prog.globals[5]?).map (·.type) = some 178 := by kernel_rfl
theorem gSyn : Tryz.prog.globalNamed "strconv.ErrSyntax" = some 4 := by kernel_rfl
theorem gSynT : (Tryz.prog.globals[4]?).map (·.type) = some 178 := by kernel_rfl
theorem starE : "*" ++ "errors.errorString" = "*errors.errorString" := by decide
theorem rowE (u : TypeId) (h : Tryz.prog.typeName? 3 u = some "*errors.errorString") : u = 264 :=
  typeName_ptr_named (nm := "errors.errorString") (by rw [starE]; kernel_rfl) (by kernel_rfl) (by decide) u (by rw [starE]; exact h)
theorem cellsErr : Tryz.prog.cellsOf 266 = 1 := by kernel_rfl
theorem cellsStr : Tryz.prog.cellsOf 9 = 1 := by kernel_rfl
theorem glob_of {W : World} (hs : W.ShapedOpen Tryz.prog) (hL : laidMetH Tryz.prog Rows.enclosureSquaresRow.laid W) : Glob W := by
  have hP : laidMet Tryz.prog Rows.enclosureSquaresRow.laid W := by
    rw [← MakeChecks.laidMetH_plain _ _ _ (by kernel_rfl)]; exact hL
  have hP2 := hP.tail.tail
  have hP4 := hP2.tail.tail
  have hP5 := hP4.tail
  obtain ⟨a0, _, h0, _⟩ := laid_sentinel hP4 gRng gRngT Tryz.underlying178 rowE Tryz.underlying264 Tryz.underlying266 rfl rfl Tryz.underlying9 cellsErr cellsStr
  obtain ⟨a1, _, h1, _⟩ := laid_sentinel hP5 gSyn gSynT Tryz.underlying178 rowE Tryz.underlying264 Tryz.underlying266 rfl rfl Tryz.underlying9 cellsErr cellsStr
  exact ⟨cell_of_shapedOpen_int (zero := #[.int .i64 0]) (t := 3) hs (of_decide_eq_true (by kernel_rfl)) (by kernel_rfl) rfl (by kernel_rfl) (by kernel_rfl) Tryz.underlying3,
    Lib.tabIs_of_head gTab gTabT Tryz.underlying236 Tryz.underlying161 cellsU64 cellsTab hP2, ⟨_, _, h1⟩, ⟨_, _, h0⟩⟩
def flatD : Nat → DataW Unit → List Value
  | _ + 1, .lit (.int k z) => [.int k z]
  | n + 1, .agg ds => ds.flatMap (flatD n)
  | _, _ => []
def putC (cs : List Value) : Obj → Obj
  | .cells _ t frozen => .cells ⟨cs⟩ t frozen
  | o => o
noncomputable def lowB : Nat := (World.holding Tryz.prog default ⟨#[], #[], []⟩).heap.size
def rngS : ByteArray := ⟨#[118, 97, 108, 117, 101, 32, 111, 117, 116, 32, 111, 102, 32, 114, 97, 110, 103, 101]⟩
def synS : ByteArray := ⟨#[105, 110, 118, 97, 108, 105, 100, 32, 115, 121, 110, 116, 97, 120]⟩
noncomputable def laidWorld (os : Os) : World :=
  let w0 := World.holding Tryz.prog os ⟨#[.cells #[.string rngS] 266, .cells #[.string synS] 266], #[], []⟩
  { w0 with heap := (((((((w0.heap.modify 6 (putC (flatD 3 Rows.laid_math_bits_deBruijn32tab))).modify 7 (putC (flatD 3 Rows.laid_math_bits_deBruijn64tab))).modify
      1 (putC (flatD 3 Rows.laid_internal_strconv_uint64pow10))).modify 3 (putC (flatD 3 Rows.laid_unicode_utf8_acceptRanges))).modify
      5 (putC [.iface 264 (.pointer (some ⟨lowB, 0, none⟩))])).modify 4 (putC [.iface 264 (.pointer (some ⟨lowB + 1, 0, none⟩))])).modify
      2 (putC (flatD 3 Rows.laid_unicode_utf8_first))) }
theorem laid_met (os : Os) (args : Array Value) : laidMet Tryz.prog Rows.enclosureSquaresRow.laid ((laidWorld os).forCall (fun _ _ => 0) ⟨#[], args, []⟩).memory :=
  laidMet_of_run' 8 (by kernel_rfl) (by kernel_rfl)
end Go.Proofs.YtdejgaiocjfhjaaGreatDoor
namespace Go.Proofs.YtdejgaiocjfhjaaGreatDoor
open Go.RowKit Go.ChangeShapes Go.WideShapes Go.Joins Go.Deep
theorem laidOut : laidOutB Tryz.prog = true := by kernel_rfl
section
variable {H : Type} {enc : TypeId × Value → H} {w : World} {base : Nat} {spare : Nat → Bool} {held : Bool}
set_option maxRecDepth 100000 in
theorem open_enc {r : Reach} {b0 : Nat} {v : Value} {d : DataW H} {p : List MemPlace} (hv : Value.okWide Tryz.prog w r b0 24 v) (h : DataW.Trod enc Tryz.prog w base spare held 24 v d p) :
    ∃ a : Enc, v = encV a := by
  obtain ⟨c0, c1, y0, y1, n, rfl, _, _, h0, h1⟩ := open_agg2 Tryz.underlying24 (by kernel_rfl) (by kernel_rfl) hv h
  obtain ⟨⟨s0⟩, e0, _, _⟩ := DataW.trod_string Tryz.underlying22 h0
  obtain ⟨⟨s1⟩, e1, _, _⟩ := DataW.trod_string Tryz.underlying22 h1
  simp at e0 e1
  subst e0; subst e1
  exact ⟨(s0.toList, s1.toList), rfl⟩
theorem cellsOfU8 : Tryz.prog.cellsOf 5 = 1 := by kernel_rfl
theorem byte_bd {n : Int} (h : (Lit.int .u8 n).wf = true) : ∃ k : Nat, n = (k : Int) ∧ k ≤ 255 := by
  simp only [Lit.wf, Bool.and_eq_true, decide_eq_true_eq] at h
  have h1 : IntKind.u8.min = 0 := by decide
  have h2 : IntKind.u8.max = 255 := by decide
  rw [h1, h2] at h
  exact ⟨n.toNat, by omega, by omega⟩
theorem list2b {α : Type} {l : List α} (h : l.length = 2) : ∃ a b, l = [a, b] := by
  match l, h with
  | [a, b], _ => exact ⟨a, b, rfl⟩
set_option maxRecDepth 100000 in
theorem open_bytes2 {r : Reach} {b0 : Nat} {v : Value} {d : DataW H} {p : List MemPlace} (hv : Value.okWide Tryz.prog w r b0 63 v) (h : DataW.Trod enc Tryz.prog w base spare held 63 v d p) :
    ∃ k l : Nat, v = .agg #[.int .u8 (k : Int), .int .u8 (l : Int)] ∧ k ≤ 255 ∧ l ≤ 255 := by
  simp only [Value.okWide, Tryz.underlying63] at hv
  obtain ⟨cs, rfl, _, _⟩ := hv
  obtain ⟨fuel, hf⟩ := h
  obtain ⟨xs, m, _, _, hl, hxs, hx⟩ := DataW.trod_array Tryz.underlying63 hf
  have hl2 : cs.toList.length = 2 := hl.trans (by kernel_rfl)
  obtain ⟨a, b, hcs⟩ := list2b hl2
  have hc : (Value.agg cs).cells.toList = [a, b] := hcs
  rw [hc, cellsOfU8] at hx
  have get : ∀ i, i < 2 → ∃ y, xs[i]? = some y := fun i hi => ⟨xs[i], List.getElem?_eq_getElem (by omega)⟩
  obtain ⟨y0, g0⟩ := get 0 (by omega)
  have k0 := hx 0 (by omega)
  rw [g0] at k0
  obtain ⟨x0, e0, _, w0⟩ := DataW.trod_int Tryz.underlying5 k0
  simp at e0
  subst e0
  obtain ⟨y1, g1⟩ := get 1 (by omega)
  have k1 := hx 1 (by omega)
  rw [g1] at k1
  obtain ⟨x1, e1, _, w1⟩ := DataW.trod_int Tryz.underlying5 k1
  simp at e1
  subst e1
  obtain ⟨k, rfl, hk⟩ := byte_bd w0
  obtain ⟨l, rfl, hl⟩ := byte_bd w1
  refine ⟨k, l, ?_, hk, hl⟩
  congr 1
  apply Array.ext'
  exact hcs
end
end Go.Proofs.YtdejgaiocjfhjaaGreatDoor
namespace Go.Proofs.YtdejgaiocjfhjaaGreatDoor
open Go.RowKit Go.ChangeShapes Go.WideShapes Go.ChangeAt
theorem band {a b : Bool} (h : a = true) (k : b = true) : (a && b) = true := by rw [h, k]; rfl
theorem factLaid : laidOutB Tryz.pinned.checked.prog = true := by kernel_rfl
theorem factMaps : mapsRowed Tryz.pinned.checked.prog = true := by kernel_rfl
theorem factHeard : Tryz.pinned.checked.prog.stopsHeard = true := by kernel_rfl
theorem factEnter : Tryz.pinned.checked.prog.mayEnter = true := by kernel_rfl
theorem factLifts : (Rows.enclosureSquaresRow.lifted == Tryz.pinned.checked.prog.liftsFinal) = true := by kernel_rfl
theorem factMake : (Tryz.pinned.checked.prog.make == some Rows.enclosureSquaresRow.make) = true := by kernel_rfl
theorem factKeys : (Rows.enclosureSquaresRow.plainKeys == Tryz.pinned.checked.prog.plainKeys) = true := by kernel_rfl
end Go.Proofs.YtdejgaiocjfhjaaGreatDoor

