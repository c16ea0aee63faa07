/- Steps of the proof: ELEq. No conditions. -/
import Derived.Test.YtdejgaiocjfhjaaGreatDoorZEB1
import Derived.Test.YtdejgaiocjfhjaaGreatDoorZEB2
import Derived.Test.YtdejgaiocjfhjaaGreatDoorZEB3
import Derived.Test.YtdejgaiocjfhjaaGreatDoorZEB4
import Derived.Test.YtdejgaiocjfhjaaGreatDoorZEB5
import Derived.Test.YtdejgaiocjfhjaaGreatDoorZEB6
import Derived.Test.YtdejgaiocjfhjaaGreatDoorZEB7
import Derived.Test.YtdejgaiocjfhjaaGreatDoorZEB8
import Derived.Test.YtdejgaiocjfhjaaGreatDoorZEB9
import Derived.Test.YtdejgaiocjfhjaaGreatDoorZEB10
import Derived.Test.YtdejgaiocjfhjaaGreatDoorZEB11
import Derived.Test.YtdejgaiocjfhjaaGreatDoorZEB12
namespace Go.Proofs.YtdejgaiocjfhjaaGreatDoor
open Go.RowKit
set_option maxHeartbeats 16000000 in
set_option maxRecDepth 100000 in
theorem lawCompares_any (a b : Enc) (w : World) (hG : Glob w) : Calls Tryz.prog 5 #[encV a, encV b] w (TrueP w) := by
  have HG := Lib.hid hG
  clear hG
  have HA : Hid (∀ W, Ext w W → Calls Tryz.prog 15 #[] W fun e w' => e = .returned (.bool true) ∧ Ext W w') := fun W h => awake2_any W (HG.out.ext h)
  unfold TrueP
  have HF1 := Lib.hid (fun W => few2_any a W)
  have HF2 := Lib.hid (fun W => few2_any b W)
  cases hfew : fewE a
  · rw [hfew] at HF1
    obtain ⟨l, h⟩ := a
    obtain ⟨m, k⟩ := b
    dsimp only [encV] at HF1 HF2 ⊢
    clear hfew HG
    have A : EncAt (w.heap.size) ((w.alloc (.cells #[txt l, txt h] 24)).alloc (.cells #[txt m, txt k] 24)) l h := ⟨by go_simp, by go_simp, by go_simp, by go_simp⟩
    have B : EncAt (w.heap.size + 1) ((w.alloc (.cells #[txt l, txt h] 24)).alloc (.cells #[txt m, txt k] 24)) m k := ⟨by go_simp, by go_simp, by go_simp, by go_simp⟩
    have E : Ext w ((w.alloc (.cells #[txt l, txt h] 24)).alloc (.cells #[txt m, txt k] 24)) := extA
    go_enter Tryz.func5, Tryz.ntmps5
    go_wp2_with fail
    generalize ((w.alloc (.cells #[txt l, txt h] 24)).alloc (.cells #[txt m, txt k] 24)) = w0 at A B E ⊢
    refine (HF1.out _).mono ?_
    rintro e w1 ⟨rfl, hE⟩
    replace E := E.trans hE
    replace A := A.ext hE
    replace B := B.ext hE
    clear hE
    have A' := A
    have B' := B
    obtain ⟨A0, A1, A2, A3⟩ := A
    have zA := cell_lt A0
    dsimp only at zA
    obtain ⟨B0, B1, B2, B3⟩ := B
    have zB := cell_lt B0
    dsimp only at zB
    go_wp2_with fail
    clear A0 A1 A2 A3 zA B0 B1 B2 B3 zB
    have A := A'
    clear A'
    have B := B'
    clear B'
    refine (HA.out _ E).mono ?_
    rintro e w2 ⟨rfl, hE⟩
    replace E := E.trans hE
    replace A := A.ext hE
    replace B := B.ext hE
    clear hE
    go_wp2_with fail
    go_ret
    exact ⟨rfl, E⟩
  rw [hfew] at HF1
  have hl := fewE_len hfew
  cases hfew2 : fewE b
  · rw [hfew2] at HF2
    obtain ⟨l, h⟩ := a
    obtain ⟨m, k⟩ := b
    dsimp only [encV] at HF1 HF2 ⊢
    clear hfew hfew2 hl HG
    have A : EncAt (w.heap.size) ((w.alloc (.cells #[txt l, txt h] 24)).alloc (.cells #[txt m, txt k] 24)) l h := ⟨by go_simp, by go_simp, by go_simp, by go_simp⟩
    have B : EncAt (w.heap.size + 1) ((w.alloc (.cells #[txt l, txt h] 24)).alloc (.cells #[txt m, txt k] 24)) m k := ⟨by go_simp, by go_simp, by go_simp, by go_simp⟩
    have E : Ext w ((w.alloc (.cells #[txt l, txt h] 24)).alloc (.cells #[txt m, txt k] 24)) := extA
    go_enter Tryz.func5, Tryz.ntmps5
    go_wp2_with fail
    generalize ((w.alloc (.cells #[txt l, txt h] 24)).alloc (.cells #[txt m, txt k] 24)) = w0 at A B E ⊢
    refine (HF1.out _).mono ?_
    rintro e w1 ⟨rfl, hE⟩
    replace E := E.trans hE
    replace A := A.ext hE
    replace B := B.ext hE
    clear hE
    have A' := A
    have B' := B
    obtain ⟨A0, A1, A2, A3⟩ := A
    have zA := cell_lt A0
    dsimp only at zA
    obtain ⟨B0, B1, B2, B3⟩ := B
    have zB := cell_lt B0
    dsimp only at zB
    go_wp2_with fail
    clear A0 A1 A2 A3 zA B0 B1 B2 B3 zB
    have A := A'
    clear A'
    have B := B'
    clear B'
    refine (HF2.out _).mono ?_
    rintro e w2 ⟨rfl, hE⟩
    replace E := E.trans hE
    replace A := A.ext hE
    replace B := B.ext hE
    clear hE
    have A' := A
    have B' := B
    obtain ⟨A0, A1, A2, A3⟩ := A
    have zA := cell_lt A0
    dsimp only at zA
    obtain ⟨B0, B1, B2, B3⟩ := B
    have zB := cell_lt B0
    dsimp only at zB
    go_wp2_with fail
    clear A0 A1 A2 A3 zA B0 B1 B2 B3 zB
    have A := A'
    clear A'
    have B := B'
    clear B'
    refine (HA.out _ E).mono ?_
    rintro e w3 ⟨rfl, hE⟩
    replace E := E.trans hE
    replace A := A.ext hE
    replace B := B.ext hE
    clear hE
    go_wp2_with fail
    go_ret
    exact ⟨rfl, E⟩
  rw [hfew2] at HF2
  have hm := fewE_len hfew2
  have X0 := Lib.hid (fun W (h : Ext w W) => eMeet_any a b W (HG.out.ext h) hl hm)
  have Y0 := Lib.hid (fun W => rMeet_any a b W hl hm)
  unfold MeetP at X0 Y0
  generalize meetE a b = R0 at X0 Y0
  obtain ⟨⟨p0, q0⟩, o0, r0⟩ := R0
  have X1 := Lib.hid (fun W (h : Ext w W) => eHull_any a b W (HG.out.ext h) hl hm)
  have Y1 := Lib.hid (fun W => rHull2_any a b W hl hm)
  unfold EncP at X1 Y1
  generalize hullE a b = R1 at X1 Y1
  obtain ⟨⟨p1, q1⟩, r1⟩ := R1
  have X2 := Lib.hid (fun W (h : Ext w W) => eWithin_any a b W (HG.out.ext h) hl hm)
  have Y2 := Lib.hid (fun W => rWithin_any a b W hl hm)
  unfold BoolP at X2 Y2
  generalize withinE a b = R2 at X2 Y2
  obtain ⟨o2, r2⟩ := R2
  have X3 := Lib.hid (fun W (h : Ext w W) => eCompare_any a b W (HG.out.ext h) hl hm)
  have Y3 := Lib.hid (fun W => rCompare2_any a b W hl hm)
  unfold IntP at X3 Y3
  generalize compareE a b = R3 at X3 Y3
  obtain ⟨o3, r3⟩ := R3
  obtain ⟨l, h⟩ := a
  obtain ⟨m, k⟩ := b
  dsimp only [encV] at HF1 HF2 X0 Y0 X1 Y1 X2 Y2 X3 Y3 ⊢
  clear hl hm hfew hfew2 HG
  have A : EncAt (w.heap.size) ((w.alloc (.cells #[txt l, txt h] 24)).alloc (.cells #[txt m, txt k] 24)) l h := ⟨by go_simp, by go_simp, by go_simp, by go_simp⟩
  have B : EncAt (w.heap.size + 1) ((w.alloc (.cells #[txt l, txt h] 24)).alloc (.cells #[txt m, txt k] 24)) m k := ⟨by go_simp, by go_simp, by go_simp, by go_simp⟩
  have E : Ext w ((w.alloc (.cells #[txt l, txt h] 24)).alloc (.cells #[txt m, txt k] 24)) := extA
  go_enter Tryz.func5, Tryz.ntmps5
  go_wp2_with fail
  generalize ((w.alloc (.cells #[txt l, txt h] 24)).alloc (.cells #[txt m, txt k] 24)) = w0 at A B E ⊢
  refine (HF1.out _).mono ?_
  rintro e w1 ⟨rfl, hE⟩
  replace E := E.trans hE
  replace A := A.ext hE
  replace B := B.ext hE
  clear hE
  have A' := A
  have B' := B
  obtain ⟨A0, A1, A2, A3⟩ := A
  have zA := cell_lt A0
  dsimp only at zA
  obtain ⟨B0, B1, B2, B3⟩ := B
  have zB := cell_lt B0
  dsimp only at zB
  go_wp2_with fail
  clear A0 A1 A2 A3 zA B0 B1 B2 B3 zB
  have A := A'
  clear A'
  have B := B'
  clear B'
  refine (HF2.out _).mono ?_
  rintro e w2 ⟨rfl, hE⟩
  replace E := E.trans hE
  replace A := A.ext hE
  replace B := B.ext hE
  clear hE
  have A' := A
  have B' := B
  obtain ⟨A0, A1, A2, A3⟩ := A
  have zA := cell_lt A0
  dsimp only at zA
  obtain ⟨B0, B1, B2, B3⟩ := B
  have zB := cell_lt B0
  dsimp only at zB
  go_wp2_with fail
  clear A0 A1 A2 A3 zA B0 B1 B2 B3 zB
  have A := A'
  clear A'
  have B := B'
  clear B'
  refine (X0.out _ E).mono ?_
  rintro e w3 ⟨rfl, hE⟩
  replace E := E.trans hE
  replace A := A.ext hE
  replace B := B.ext hE
  clear hE
  have A' := A
  have B' := B
  obtain ⟨A0, A1, A2, A3⟩ := A
  have zA := cell_lt A0
  dsimp only at zA
  obtain ⟨B0, B1, B2, B3⟩ := B
  have zB := cell_lt B0
  dsimp only at zB
  have C : EncAt (w3.heap.size) (w3.alloc (.cells #[txt p0, txt q0] 24)) p0 q0 := ⟨by go_simp, by go_simp, by go_simp, by go_simp⟩
  have EA : Ext w3 (w3.alloc (.cells #[txt p0, txt q0] 24)) := extA
  replace A' := A'.ext EA
  replace B' := B'.ext EA
  replace E := E.trans EA
  clear EA
  go_wp2_with fail
  clear A0 A1 A2 A3 zA B0 B1 B2 B3 zB
  have A := A'
  clear A'
  have B := B'
  clear B'
  obtain ⟨bC, hbC⟩ : ∃ b, b = w3.heap.size := ⟨_, rfl⟩
  rw [← hbC] at C  ⊢
  generalize (w3.alloc (.cells #[txt p0, txt q0] 24)) = w4 at A B C E ⊢
  clear hbC
  refine (Y0.out _).mono ?_
  rintro e w5 ⟨rfl, hE⟩
  replace E := E.trans hE
  replace A := A.ext hE
  replace B := B.ext hE
  replace C := C.ext hE
  clear hE
  have A' := A
  have B' := B
  have C' := C
  obtain ⟨A0, A1, A2, A3⟩ := A
  have zA := cell_lt A0
  dsimp only at zA
  obtain ⟨B0, B1, B2, B3⟩ := B
  have zB := cell_lt B0
  dsimp only at zB
  obtain ⟨C0, C1, C2, C3⟩ := C
  have zC := cell_lt C0
  dsimp only at zC
  have D : EncAt (w5.heap.size) (w5.alloc (.cells #[txt p0, txt q0] 24)) p0 q0 := ⟨by go_simp, by go_simp, by go_simp, by go_simp⟩
  have EA : Ext w5 (w5.alloc (.cells #[txt p0, txt q0] 24)) := extA
  replace A' := A'.ext EA
  replace B' := B'.ext EA
  replace C' := C'.ext EA
  replace E := E.trans EA
  clear EA
  go_wp2_with fail
  clear A0 A1 A2 A3 zA B0 B1 B2 B3 zB C0 C1 C2 C3 zC
  have A := A'
  clear A'
  have B := B'
  clear B'
  have C := C'
  clear C'
  obtain ⟨bD, hbD⟩ : ∃ b, b = w5.heap.size := ⟨_, rfl⟩
  rw [← hbD] at D  ⊢
  generalize (w5.alloc (.cells #[txt p0, txt q0] 24)) = w6 at A B C D E ⊢
  clear hbD
  refine (X1.out _ E).mono ?_
  rintro e w7 ⟨rfl, hE⟩
  replace E := E.trans hE
  replace A := A.ext hE
  replace B := B.ext hE
  replace C := C.ext hE
  replace D := D.ext hE
  clear hE
  have A' := A
  have B' := B
  have C' := C
  have D' := D
  obtain ⟨A0, A1, A2, A3⟩ := A
  have zA := cell_lt A0
  dsimp only at zA
  obtain ⟨B0, B1, B2, B3⟩ := B
  have zB := cell_lt B0
  dsimp only at zB
  obtain ⟨C0, C1, C2, C3⟩ := C
  have zC := cell_lt C0
  dsimp only at zC
  obtain ⟨D0, D1, D2, D3⟩ := D
  have zD := cell_lt D0
  dsimp only at zD
  have F : EncAt (w7.heap.size) (w7.alloc (.cells #[txt p1, txt q1] 24)) p1 q1 := ⟨by go_simp, by go_simp, by go_simp, by go_simp⟩
  have EA : Ext w7 (w7.alloc (.cells #[txt p1, txt q1] 24)) := extA
  replace A' := A'.ext EA
  replace B' := B'.ext EA
  replace C' := C'.ext EA
  replace D' := D'.ext EA
  replace E := E.trans EA
  clear EA
  go_wp2_with fail
  clear A0 A1 A2 A3 zA B0 B1 B2 B3 zB C0 C1 C2 C3 zC D0 D1 D2 D3 zD
  have A := A'
  clear A'
  have B := B'
  clear B'
  have C := C'
  clear C'
  have D := D'
  clear D'
  obtain ⟨bF, hbF⟩ : ∃ b, b = w7.heap.size := ⟨_, rfl⟩
  rw [← hbF] at F  ⊢
  generalize (w7.alloc (.cells #[txt p1, txt q1] 24)) = w8 at A B C D F E ⊢
  clear hbF
  refine (Y1.out _).mono ?_
  rintro e w9 ⟨rfl, hE⟩
  replace E := E.trans hE
  replace A := A.ext hE
  replace B := B.ext hE
  replace C := C.ext hE
  replace D := D.ext hE
  replace F := F.ext hE
  clear hE
  have A' := A
  have B' := B
  have C' := C
  have D' := D
  have F' := F
  obtain ⟨A0, A1, A2, A3⟩ := A
  have zA := cell_lt A0
  dsimp only at zA
  obtain ⟨B0, B1, B2, B3⟩ := B
  have zB := cell_lt B0
  dsimp only at zB
  obtain ⟨C0, C1, C2, C3⟩ := C
  have zC := cell_lt C0
  dsimp only at zC
  obtain ⟨D0, D1, D2, D3⟩ := D
  have zD := cell_lt D0
  dsimp only at zD
  obtain ⟨F0, F1, F2, F3⟩ := F
  have zF := cell_lt F0
  dsimp only at zF
  have G : EncAt (w9.heap.size) (w9.alloc (.cells #[txt p1, txt q1] 24)) p1 q1 := ⟨by go_simp, by go_simp, by go_simp, by go_simp⟩
  have EA : Ext w9 (w9.alloc (.cells #[txt p1, txt q1] 24)) := extA
  replace A' := A'.ext EA
  replace B' := B'.ext EA
  replace C' := C'.ext EA
  replace D' := D'.ext EA
  replace F' := F'.ext EA
  replace E := E.trans EA
  clear EA
  go_wp2_with fail
  clear A0 A1 A2 A3 zA B0 B1 B2 B3 zB C0 C1 C2 C3 zC D0 D1 D2 D3 zD F0 F1 F2 F3 zF
  have A := A'
  clear A'
  have B := B'
  clear B'
  have C := C'
  clear C'
  have D := D'
  clear D'
  have F := F'
  clear F'
  obtain ⟨bG, hbG⟩ : ∃ b, b = w9.heap.size := ⟨_, rfl⟩
  rw [← hbG] at G  ⊢
  generalize (w9.alloc (.cells #[txt p1, txt q1] 24)) = w10 at A B C D F G E ⊢
  clear hbG
  refine (X2.out _ E).mono ?_
  rintro e w11 ⟨rfl, hE⟩
  replace E := E.trans hE
  replace A := A.ext hE
  replace B := B.ext hE
  replace C := C.ext hE
  replace D := D.ext hE
  replace F := F.ext hE
  replace G := G.ext hE
  clear hE
  have A' := A
  have B' := B
  have C' := C
  have D' := D
  have F' := F
  have G' := G
  obtain ⟨A0, A1, A2, A3⟩ := A
  have zA := cell_lt A0
  dsimp only at zA
  obtain ⟨B0, B1, B2, B3⟩ := B
  have zB := cell_lt B0
  dsimp only at zB
  obtain ⟨C0, C1, C2, C3⟩ := C
  have zC := cell_lt C0
  dsimp only at zC
  obtain ⟨D0, D1, D2, D3⟩ := D
  have zD := cell_lt D0
  dsimp only at zD
  obtain ⟨F0, F1, F2, F3⟩ := F
  have zF := cell_lt F0
  dsimp only at zF
  obtain ⟨G0, G1, G2, G3⟩ := G
  have zG := cell_lt G0
  dsimp only at zG
  go_wp2_with fail
  clear A0 A1 A2 A3 zA B0 B1 B2 B3 zB C0 C1 C2 C3 zC D0 D1 D2 D3 zD F0 F1 F2 F3 zF G0 G1 G2 G3 zG
  have A := A'
  clear A'
  have B := B'
  clear B'
  have C := C'
  clear C'
  have D := D'
  clear D'
  have F := F'
  clear F'
  have G := G'
  clear G'
  refine (Y2.out _).mono ?_
  rintro e w12 ⟨rfl, hE⟩
  replace E := E.trans hE
  replace A := A.ext hE
  replace B := B.ext hE
  replace C := C.ext hE
  replace D := D.ext hE
  replace F := F.ext hE
  replace G := G.ext hE
  clear hE
  have A' := A
  have B' := B
  have C' := C
  have D' := D
  have F' := F
  have G' := G
  obtain ⟨A0, A1, A2, A3⟩ := A
  have zA := cell_lt A0
  dsimp only at zA
  obtain ⟨B0, B1, B2, B3⟩ := B
  have zB := cell_lt B0
  dsimp only at zB
  obtain ⟨C0, C1, C2, C3⟩ := C
  have zC := cell_lt C0
  dsimp only at zC
  obtain ⟨D0, D1, D2, D3⟩ := D
  have zD := cell_lt D0
  dsimp only at zD
  obtain ⟨F0, F1, F2, F3⟩ := F
  have zF := cell_lt F0
  dsimp only at zF
  obtain ⟨G0, G1, G2, G3⟩ := G
  have zG := cell_lt G0
  dsimp only at zG
  go_wp2_with fail
  clear A0 A1 A2 A3 zA B0 B1 B2 B3 zB C0 C1 C2 C3 zC D0 D1 D2 D3 zD F0 F1 F2 F3 zF G0 G1 G2 G3 zG
  have A := A'
  clear A'
  have B := B'
  clear B'
  have C := C'
  clear C'
  have D := D'
  clear D'
  have F := F'
  clear F'
  have G := G'
  clear G'
  refine (X3.out _ E).mono ?_
  rintro e w13 ⟨rfl, hE⟩
  replace E := E.trans hE
  replace A := A.ext hE
  replace B := B.ext hE
  replace C := C.ext hE
  replace D := D.ext hE
  replace F := F.ext hE
  replace G := G.ext hE
  clear hE
  have A' := A
  have B' := B
  have C' := C
  have D' := D
  have F' := F
  have G' := G
  obtain ⟨A0, A1, A2, A3⟩ := A
  have zA := cell_lt A0
  dsimp only at zA
  obtain ⟨B0, B1, B2, B3⟩ := B
  have zB := cell_lt B0
  dsimp only at zB
  obtain ⟨C0, C1, C2, C3⟩ := C
  have zC := cell_lt C0
  dsimp only at zC
  obtain ⟨D0, D1, D2, D3⟩ := D
  have zD := cell_lt D0
  dsimp only at zD
  obtain ⟨F0, F1, F2, F3⟩ := F
  have zF := cell_lt F0
  dsimp only at zF
  obtain ⟨G0, G1, G2, G3⟩ := G
  have zG := cell_lt G0
  dsimp only at zG
  go_wp2_with fail
  clear A0 A1 A2 A3 zA B0 B1 B2 B3 zB C0 C1 C2 C3 zC D0 D1 D2 D3 zD F0 F1 F2 F3 zF G0 G1 G2 G3 zG
  have A := A'
  clear A'
  have B := B'
  clear B'
  have C := C'
  clear C'
  have D := D'
  clear D'
  have F := F'
  clear F'
  have G := G'
  clear G'
  refine (Y3.out _).mono ?_
  rintro e w14 ⟨rfl, hE⟩
  replace E := E.trans hE
  replace A := A.ext hE
  replace B := B.ext hE
  replace C := C.ext hE
  replace D := D.ext hE
  replace F := F.ext hE
  replace G := G.ext hE
  clear hE
  have A' := A
  have B' := B
  have C' := C
  have D' := D
  have F' := F
  have G' := G
  obtain ⟨A0, A1, A2, A3⟩ := A
  have zA := cell_lt A0
  dsimp only at zA
  obtain ⟨B0, B1, B2, B3⟩ := B
  have zB := cell_lt B0
  dsimp only at zB
  obtain ⟨C0, C1, C2, C3⟩ := C
  have zC := cell_lt C0
  dsimp only at zC
  obtain ⟨D0, D1, D2, D3⟩ := D
  have zD := cell_lt D0
  dsimp only at zD
  obtain ⟨F0, F1, F2, F3⟩ := F
  have zF := cell_lt F0
  dsimp only at zF
  obtain ⟨G0, G1, G2, G3⟩ := G
  have zG := cell_lt G0
  dsimp only at zG
  go_wp2_with fail
  clear A0 A1 A2 A3 zA B0 B1 B2 B3 zB C0 C1 C2 C3 zC D0 D1 D2 D3 zD F0 F1 F2 F3 zF G0 G1 G2 G3 zG
  have A := A'
  clear A'
  have B := B'
  clear B'
  have C := C'
  clear C'
  have D := D'
  clear D'
  have F := F'
  clear F'
  have G := G'
  clear G'
  refine (HA.out _ E).mono ?_
  rintro e w15 ⟨rfl, hE⟩
  replace E := E.trans hE
  replace A := A.ext hE
  replace B := B.ext hE
  replace C := C.ext hE
  replace D := D.ext hE
  replace F := F.ext hE
  replace G := G.ext hE
  clear hE
  go_wp2_with fail
  go_ret
  exact ⟨rfl, E⟩
end Go.Proofs.YtdejgaiocjfhjaaGreatDoor
