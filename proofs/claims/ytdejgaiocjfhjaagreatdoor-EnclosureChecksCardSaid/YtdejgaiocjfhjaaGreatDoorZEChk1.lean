/- Steps of the proof: ELEq. No conditions. -/
import Derived.Test.YtdejgaiocjfhjaaGreatDoorZEB1
import Derived.Test.YtdejgaiocjfhjaaGreatDoorZEB2
import Derived.Test.YtdejgaiocjfhjaaGreatDoorZEB3
import Derived.Test.YtdejgaiocjfhjaaGreatDoorZEB4
import Derived.Test.YtdejgaiocjfhjaaGreatDoorZEB5
import Derived.Test.YtdejgaiocjfhjaaGreatDoorZEB6
import Derived.Test.YtdejgaiocjfhjaaGreatDoorZEB7
import Derived.Test.YtdejgaiocjfhjaaGreatDoorZEB8
import Derived.Test.YtdejgaiocjfhjaaGreatDoorZEB9
import Derived.Test.YtdejgaiocjfhjaaGreatDoorZEB10
import Derived.Test.YtdejgaiocjfhjaaGreatDoorZEB11
import Derived.Test.YtdejgaiocjfhjaaGreatDoorZEB12
namespace Go.Proofs.YtdejgaiocjfhjaaGreatDoor
open Go.RowKit
set_option maxHeartbeats 16000000 in
set_option maxRecDepth 100000 in
theorem lawChecks2_any (a : Enc) (x : Txt) (w : World) (hG : Glob w) : Calls Tryz.prog 7 #[encV a, txt x] w (TrueP w) := by
  have HG := Lib.hid hG
  clear hG
  have HA : Hid (∀ W, Ext w W → Calls Tryz.prog 15 #[] W fun e w' => e = .returned (.bool true) ∧ Ext W w') := fun W h => awake2_any W (HG.out.ext h)
  unfold TrueP
  have HF1 := Lib.hid (fun W => few2_any a W)
  have HF2 := Lib.hid (fun W => fewR_any x W)
  cases hfew : fewE a
  · rw [hfew] at HF1
    obtain ⟨l, h⟩ := a
    dsimp only [encV] at HF1 HF2 ⊢
    clear hfew HG
    have A : EncAt (w.heap.size) (w.alloc (.cells #[txt l, txt h] 24)) l h := ⟨by go_simp, by go_simp, by go_simp, by go_simp⟩
    have E : Ext w (w.alloc (.cells #[txt l, txt h] 24)) := extA
    go_enter Tryz.func7, Tryz.ntmps7
    go_wp2_with fail
    generalize (w.alloc (.cells #[txt l, txt h] 24)) = w0 at A E ⊢
    refine (HF1.out _).mono ?_
    rintro e w1 ⟨rfl, hE⟩
    replace E := E.trans hE
    replace A := A.ext hE
    clear hE
    have A' := A
    obtain ⟨A0, A1, A2, A3⟩ := A
    have zA := cell_lt A0
    dsimp only at zA
    go_wp2_with fail
    clear A0 A1 A2 A3 zA
    have A := A'
    clear A'
    refine (HA.out _ E).mono ?_
    rintro e w2 ⟨rfl, hE⟩
    replace E := E.trans hE
    replace A := A.ext hE
    clear hE
    go_wp2_with fail
    go_ret
    exact ⟨rfl, E⟩
  rw [hfew] at HF1
  have hl := fewE_len hfew
  cases hfew2 : decide (x.length ≤ 180)
  · rw [hfew2] at HF2
    obtain ⟨l, h⟩ := a
    dsimp only [encV] at HF1 HF2 ⊢
    clear hfew hfew2 hl HG
    have A : EncAt (w.heap.size) (w.alloc (.cells #[txt l, txt h] 24)) l h := ⟨by go_simp, by go_simp, by go_simp, by go_simp⟩
    have E : Ext w (w.alloc (.cells #[txt l, txt h] 24)) := extA
    go_enter Tryz.func7, Tryz.ntmps7
    go_wp2_with fail
    generalize (w.alloc (.cells #[txt l, txt h] 24)) = w0 at A E ⊢
    refine (HF1.out _).mono ?_
    rintro e w1 ⟨rfl, hE⟩
    replace E := E.trans hE
    replace A := A.ext hE
    clear hE
    have A' := A
    obtain ⟨A0, A1, A2, A3⟩ := A
    have zA := cell_lt A0
    dsimp only at zA
    go_wp2_with fail
    clear A0 A1 A2 A3 zA
    have A := A'
    clear A'
    refine (HF2.out _).mono ?_
    rintro e w2 ⟨rfl, hw⟩; obtain rfl := hw.symm; clear hw
    have A' := A
    obtain ⟨A0, A1, A2, A3⟩ := A
    have zA := cell_lt A0
    dsimp only at zA
    go_wp2_with fail
    clear A0 A1 A2 A3 zA
    have A := A'
    clear A'
    refine (HA.out _ E).mono ?_
    rintro e w2 ⟨rfl, hE⟩
    replace E := E.trans hE
    replace A := A.ext hE
    clear hE
    go_wp2_with fail
    go_ret
    exact ⟨rfl, E⟩
  rw [hfew2] at HF2
  have hm : x.length ≤ 400 := by simp at hfew2; omega
  have X0 := Lib.hid (fun W (h : Ext w W) => eOf_any a.1 a.2 W (HG.out.ext h) hl)
  have Y0 := Lib.hid (fun W => rOf_any a.1 a.2 W hl)
  have X1 := Lib.hid (fun W (h : Ext w W) => ePoint_any x W (HG.out.ext h) hm)
  have Y1 := Lib.hid (fun W => rPoint_any x W hm)
  have X2 := Lib.hid (fun W (h : Ext w W) => eContains_any a x W (HG.out.ext h) hl hm)
  have Y2 := Lib.hid (fun W => rContains_any a x W hl hm)
  have X3 := Lib.hid (fun W (h : Ext w W) => eCheck_any a W (HG.out.ext h) hl)
  have Y3 := Lib.hid (fun W => rCheck2_any a W hl)
  unfold EncP at X0 Y0 X1 Y1
  unfold BoolP at X2 Y2
  generalize ofE a.1 a.2 = R0 at X0 Y0
  generalize pointE x = R1 at X1 Y1
  generalize containsE a x = R2 at X2 Y2
  generalize encE a = R3 at X3 Y3
  obtain ⟨⟨p0, q0⟩, r0⟩ := R0
  obtain ⟨⟨p1, q1⟩, r1⟩ := R1
  obtain ⟨o2, r2⟩ := R2
  obtain ⟨l, h⟩ := a
  dsimp only [encV] at HF1 HF2 X0 Y0 X1 Y1 X2 Y2 X3 Y3 ⊢
  clear hl hm hfew hfew2 HG
  have A : EncAt (w.heap.size) (w.alloc (.cells #[txt l, txt h] 24)) l h := ⟨by go_simp, by go_simp, by go_simp, by go_simp⟩
  have E : Ext w (w.alloc (.cells #[txt l, txt h] 24)) := extA
  go_enter Tryz.func7, Tryz.ntmps7
  go_wp2_with fail
  generalize (w.alloc (.cells #[txt l, txt h] 24)) = w0 at A E ⊢
  refine (HF1.out _).mono ?_
  rintro e w1 ⟨rfl, hE⟩
  replace E := E.trans hE
  replace A := A.ext hE
  clear hE
  have A' := A
  obtain ⟨A0, A1, A2, A3⟩ := A
  have zA := cell_lt A0
  dsimp only at zA
  go_wp2_with fail
  clear A0 A1 A2 A3 zA
  have A := A'
  clear A'
  refine (HF2.out _).mono ?_
  rintro e w2 ⟨rfl, hw⟩; obtain rfl := hw.symm; clear hw
  have A' := A
  obtain ⟨A0, A1, A2, A3⟩ := A
  have zA := cell_lt A0
  dsimp only at zA
  go_wp2_with fail
  clear A0 A1 A2 A3 zA
  have A := A'
  clear A'
  refine (X0.out _ E).mono ?_
  rintro e w2 ⟨rfl, hE⟩
  replace E := E.trans hE
  replace A := A.ext hE
  clear hE
  have A' := A
  obtain ⟨A0, A1, A2, A3⟩ := A
  have zA := cell_lt A0
  dsimp only at zA
  have C : EncAt (w2.heap.size) (w2.alloc (.cells #[txt p0, txt q0] 24)) p0 q0 := ⟨by go_simp, by go_simp, by go_simp, by go_simp⟩
  have EA : Ext w2 (w2.alloc (.cells #[txt p0, txt q0] 24)) := extA
  replace A' := A'.ext EA
  replace E := E.trans EA
  clear EA
  go_wp2_with fail
  clear A0 A1 A2 A3 zA
  have A := A'
  clear A'
  obtain ⟨bC, hbC⟩ : ∃ b, b = w2.heap.size := ⟨_, rfl⟩
  rw [← hbC] at C  ⊢
  generalize (w2.alloc (.cells #[txt p0, txt q0] 24)) = w3 at A C E ⊢
  clear hbC
  refine (Y0.out _).mono ?_
  rintro e w4 ⟨rfl, hE⟩
  replace E := E.trans hE
  replace A := A.ext hE
  replace C := C.ext hE
  clear hE
  have A' := A
  have C' := C
  obtain ⟨A0, A1, A2, A3⟩ := A
  have zA := cell_lt A0
  dsimp only at zA
  obtain ⟨C0, C1, C2, C3⟩ := C
  have zC := cell_lt C0
  dsimp only at zC
  have D : EncAt (w4.heap.size) (w4.alloc (.cells #[txt p0, txt q0] 24)) p0 q0 := ⟨by go_simp, by go_simp, by go_simp, by go_simp⟩
  have EA : Ext w4 (w4.alloc (.cells #[txt p0, txt q0] 24)) := extA
  replace A' := A'.ext EA
  replace C' := C'.ext EA
  replace E := E.trans EA
  clear EA
  go_wp2_with fail
  clear A0 A1 A2 A3 zA C0 C1 C2 C3 zC
  have A := A'
  clear A'
  have C := C'
  clear C'
  obtain ⟨bD, hbD⟩ : ∃ b, b = w4.heap.size := ⟨_, rfl⟩
  rw [← hbD] at D  ⊢
  generalize (w4.alloc (.cells #[txt p0, txt q0] 24)) = w5 at A C D E ⊢
  clear hbD
  refine (X1.out _ E).mono ?_
  rintro e w6 ⟨rfl, hE⟩
  replace E := E.trans hE
  replace A := A.ext hE
  replace C := C.ext hE
  replace D := D.ext hE
  clear hE
  have A' := A
  have C' := C
  have D' := D
  obtain ⟨A0, A1, A2, A3⟩ := A
  have zA := cell_lt A0
  dsimp only at zA
  obtain ⟨C0, C1, C2, C3⟩ := C
  have zC := cell_lt C0
  dsimp only at zC
  obtain ⟨D0, D1, D2, D3⟩ := D
  have zD := cell_lt D0
  dsimp only at zD
  have F : EncAt (w6.heap.size) (w6.alloc (.cells #[txt p1, txt q1] 24)) p1 q1 := ⟨by go_simp, by go_simp, by go_simp, by go_simp⟩
  have EA : Ext w6 (w6.alloc (.cells #[txt p1, txt q1] 24)) := extA
  replace A' := A'.ext EA
  replace C' := C'.ext EA
  replace D' := D'.ext EA
  replace E := E.trans EA
  clear EA
  go_wp2_with fail
  clear A0 A1 A2 A3 zA C0 C1 C2 C3 zC D0 D1 D2 D3 zD
  have A := A'
  clear A'
  have C := C'
  clear C'
  have D := D'
  clear D'
  obtain ⟨bF, hbF⟩ : ∃ b, b = w6.heap.size := ⟨_, rfl⟩
  rw [← hbF] at F  ⊢
  generalize (w6.alloc (.cells #[txt p1, txt q1] 24)) = w7 at A C D F E ⊢
  clear hbF
  refine (Y1.out _).mono ?_
  rintro e w8 ⟨rfl, hE⟩
  replace E := E.trans hE
  replace A := A.ext hE
  replace C := C.ext hE
  replace D := D.ext hE
  replace F := F.ext hE
  clear hE
  have A' := A
  have C' := C
  have D' := D
  have F' := F
  obtain ⟨A0, A1, A2, A3⟩ := A
  have zA := cell_lt A0
  dsimp only at zA
  obtain ⟨C0, C1, C2, C3⟩ := C
  have zC := cell_lt C0
  dsimp only at zC
  obtain ⟨D0, D1, D2, D3⟩ := D
  have zD := cell_lt D0
  dsimp only at zD
  obtain ⟨F0, F1, F2, F3⟩ := F
  have zF := cell_lt F0
  dsimp only at zF
  have G : EncAt (w8.heap.size) (w8.alloc (.cells #[txt p1, txt q1] 24)) p1 q1 := ⟨by go_simp, by go_simp, by go_simp, by go_simp⟩
  have EA : Ext w8 (w8.alloc (.cells #[txt p1, txt q1] 24)) := extA
  replace A' := A'.ext EA
  replace C' := C'.ext EA
  replace D' := D'.ext EA
  replace F' := F'.ext EA
  replace E := E.trans EA
  clear EA
  go_wp2_with fail
  clear A0 A1 A2 A3 zA C0 C1 C2 C3 zC D0 D1 D2 D3 zD F0 F1 F2 F3 zF
  have A := A'
  clear A'
  have C := C'
  clear C'
  have D := D'
  clear D'
  have F := F'
  clear F'
  obtain ⟨bG, hbG⟩ : ∃ b, b = w8.heap.size := ⟨_, rfl⟩
  rw [← hbG] at G  ⊢
  generalize (w8.alloc (.cells #[txt p1, txt q1] 24)) = w9 at A C D F G E ⊢
  clear hbG
  refine (X2.out _ E).mono ?_
  rintro e w10 ⟨rfl, hE⟩
  replace E := E.trans hE
  replace A := A.ext hE
  replace C := C.ext hE
  replace D := D.ext hE
  replace F := F.ext hE
  replace G := G.ext hE
  clear hE
  have A' := A
  have C' := C
  have D' := D
  have F' := F
  have G' := G
  obtain ⟨A0, A1, A2, A3⟩ := A
  have zA := cell_lt A0
  dsimp only at zA
  obtain ⟨C0, C1, C2, C3⟩ := C
  have zC := cell_lt C0
  dsimp only at zC
  obtain ⟨D0, D1, D2, D3⟩ := D
  have zD := cell_lt D0
  dsimp only at zD
  obtain ⟨F0, F1, F2, F3⟩ := F
  have zF := cell_lt F0
  dsimp only at zF
  obtain ⟨G0, G1, G2, G3⟩ := G
  have zG := cell_lt G0
  dsimp only at zG
  go_wp2_with fail
  clear A0 A1 A2 A3 zA C0 C1 C2 C3 zC D0 D1 D2 D3 zD F0 F1 F2 F3 zF G0 G1 G2 G3 zG
  have A := A'
  clear A'
  have C := C'
  clear C'
  have D := D'
  clear D'
  have F := F'
  clear F'
  have G := G'
  clear G'
  refine (Y2.out _).mono ?_
  rintro e w11 ⟨rfl, hE⟩
  replace E := E.trans hE
  replace A := A.ext hE
  replace C := C.ext hE
  replace D := D.ext hE
  replace F := F.ext hE
  replace G := G.ext hE
  clear hE
  go_wp2_with fail
  have hD : Ext w11 w11.drew := extA
  replace E := E.trans hD
  have hS : w11.drew.cell? ⟨w.heap.size, 0, none⟩ = some (txt l) ∧ w11.drew.cell? ⟨w.heap.size, 1, none⟩ = some (txt h) ∧ w11.drew.cell? ⟨bC, 0, none⟩ = some (txt p0) ∧ w11.drew.cell? ⟨bC, 1, none⟩ = some (txt q0) ∧ w11.drew.cell? ⟨bD, 0, none⟩ = some (txt p0) ∧ w11.drew.cell? ⟨bD, 1, none⟩ = some (txt q0) ∧ w11.drew.cell? ⟨bF, 0, none⟩ = some (txt p1) ∧ w11.drew.cell? ⟨bF, 1, none⟩ = some (txt q1) ∧ w11.drew.cell? ⟨bG, 0, none⟩ = some (txt p1) ∧ w11.drew.cell? ⟨bG, 1, none⟩ = some (txt q1) := ⟨hD.cell A.c0, hD.cell A.c1, hD.cell C.c0, hD.cell C.c1, hD.cell D.c0, hD.cell D.c1, hD.cell F.c0, hD.cell F.c1, hD.cell G.c0, hD.cell G.c1⟩
  refine wp_region_heldE 99 (fun w' => w'.cell? ⟨w.heap.size, 0, none⟩ = some (txt l) ∧ w'.cell? ⟨w.heap.size, 1, none⟩ = some (txt h) ∧ w'.cell? ⟨bC, 0, none⟩ = some (txt p0) ∧ w'.cell? ⟨bC, 1, none⟩ = some (txt q0) ∧ w'.cell? ⟨bD, 0, none⟩ = some (txt p0) ∧ w'.cell? ⟨bD, 1, none⟩ = some (txt q0) ∧ w'.cell? ⟨bF, 0, none⟩ = some (txt p1) ∧ w'.cell? ⟨bF, 1, none⟩ = some (txt q1) ∧ w'.cell? ⟨bG, 0, none⟩ = some (txt p1) ∧ w'.cell? ⟨bG, 1, none⟩ = some (txt q1)) (by kernel_rfl) ?_
  clear hD A C D F G
  generalize w11.drew = v0 at E hS ⊢
  (refine wpAnyE_one (i := 0) (o := ?_) ?_ (by kernel_rfl) (fun K hK => ?_); rotate_left; (focus ((simp only [List.getElem?_toArray, List.getElem?_cons_zero]; exact rfl))); go_simp; go_at_call 15; refine (HA.out _ E).mono ?_; rintro e v1 ⟨rfl, hE⟩; go_wp2_with fail; refine hK.out _ _ ?_ (fun hHeld => ?_); rotate_left; clear hK K; (try simp only [Act.put, List.setIfInBounds_toArray, List.set_cons_zero, List.set_cons_succ]))
  rotate_left
  · exact ⟨hE.cell hS.1, hE.cell hS.2.1, hE.cell hS.2.2.1, hE.cell hS.2.2.2.1, hE.cell hS.2.2.2.2.1, hE.cell hS.2.2.2.2.2.1, hE.cell hS.2.2.2.2.2.2.1, hE.cell hS.2.2.2.2.2.2.2.1, hE.cell hS.2.2.2.2.2.2.2.2.1, hE.cell hS.2.2.2.2.2.2.2.2.2⟩
  replace E := E.trans hE
  replace hS : v1.cell? ⟨w.heap.size, 0, none⟩ = some (txt l) ∧ v1.cell? ⟨w.heap.size, 1, none⟩ = some (txt h) ∧ v1.cell? ⟨bC, 0, none⟩ = some (txt p0) ∧ v1.cell? ⟨bC, 1, none⟩ = some (txt q0) ∧ v1.cell? ⟨bD, 0, none⟩ = some (txt p0) ∧ v1.cell? ⟨bD, 1, none⟩ = some (txt q0) ∧ v1.cell? ⟨bF, 0, none⟩ = some (txt p1) ∧ v1.cell? ⟨bF, 1, none⟩ = some (txt q1) ∧ v1.cell? ⟨bG, 0, none⟩ = some (txt p1) ∧ v1.cell? ⟨bG, 1, none⟩ = some (txt q1) := ⟨hE.cell hS.1, hE.cell hS.2.1, hE.cell hS.2.2.1, hE.cell hS.2.2.2.1, hE.cell hS.2.2.2.2.1, hE.cell hS.2.2.2.2.2.1, hE.cell hS.2.2.2.2.2.2.1, hE.cell hS.2.2.2.2.2.2.2.1, hE.cell hS.2.2.2.2.2.2.2.2.1, hE.cell hS.2.2.2.2.2.2.2.2.2⟩
  clear hE hHeld
  ((refine eTk 1 ?_); (refine eTk 2 ?_); (refine eTk 4 ?_))
  (refine wpAnyE_one (i := 3) (o := ?_) ?_ (by kernel_rfl) (fun K hK => ?_); rotate_left; (focus ((simp only [List.getElem?_toArray, List.getElem?_cons_succ, List.getElem?_cons_zero]; exact rfl))); go_simp; go_at_call 44; refine (X3.out _ E).mono ?_; rintro e v2 ⟨rfl, hE⟩; go_wp2_with fail; refine hK.out _ _ ?_ (fun hHeld => ?_); rotate_left; clear hK K; (try simp only [Act.put, List.setIfInBounds_toArray, List.set_cons_zero, List.set_cons_succ]))
  rotate_left
  · exact ⟨hE.cell hS.1, hE.cell hS.2.1, hE.cell hS.2.2.1, hE.cell hS.2.2.2.1, hE.cell hS.2.2.2.2.1, hE.cell hS.2.2.2.2.2.1, hE.cell hS.2.2.2.2.2.2.1, hE.cell hS.2.2.2.2.2.2.2.1, hE.cell hS.2.2.2.2.2.2.2.2.1, hE.cell hS.2.2.2.2.2.2.2.2.2⟩
  replace E := E.trans hE
  replace hS : v2.cell? ⟨w.heap.size, 0, none⟩ = some (txt l) ∧ v2.cell? ⟨w.heap.size, 1, none⟩ = some (txt h) ∧ v2.cell? ⟨bC, 0, none⟩ = some (txt p0) ∧ v2.cell? ⟨bC, 1, none⟩ = some (txt q0) ∧ v2.cell? ⟨bD, 0, none⟩ = some (txt p0) ∧ v2.cell? ⟨bD, 1, none⟩ = some (txt q0) ∧ v2.cell? ⟨bF, 0, none⟩ = some (txt p1) ∧ v2.cell? ⟨bF, 1, none⟩ = some (txt q1) ∧ v2.cell? ⟨bG, 0, none⟩ = some (txt p1) ∧ v2.cell? ⟨bG, 1, none⟩ = some (txt q1) := ⟨hE.cell hS.1, hE.cell hS.2.1, hE.cell hS.2.2.1, hE.cell hS.2.2.2.1, hE.cell hS.2.2.2.2.1, hE.cell hS.2.2.2.2.2.1, hE.cell hS.2.2.2.2.2.2.1, hE.cell hS.2.2.2.2.2.2.2.1, hE.cell hS.2.2.2.2.2.2.2.2.1, hE.cell hS.2.2.2.2.2.2.2.2.2⟩
  clear hE hHeld
  (refine wpAnyE_one (i := 5) (o := ?_) ?_ (by kernel_rfl) (fun K hK => ?_); rotate_left; (focus ((simp only [List.getElem?_toArray, List.getElem?_cons_succ, List.getElem?_cons_zero]; exact rfl))); go_simp; go_at_call 45; refine (Y3.out _).mono ?_; rintro e v3 ⟨rfl, hE⟩; go_wp2_with fail; refine hK.out _ _ ?_ (fun hHeld => ?_); rotate_left; clear hK K; (try simp only [Act.put, List.setIfInBounds_toArray, List.set_cons_zero, List.set_cons_succ]))
  rotate_left
  · exact ⟨hE.cell hS.1, hE.cell hS.2.1, hE.cell hS.2.2.1, hE.cell hS.2.2.2.1, hE.cell hS.2.2.2.2.1, hE.cell hS.2.2.2.2.2.1, hE.cell hS.2.2.2.2.2.2.1, hE.cell hS.2.2.2.2.2.2.2.1, hE.cell hS.2.2.2.2.2.2.2.2.1, hE.cell hS.2.2.2.2.2.2.2.2.2⟩
  replace E := E.trans hE
  replace hS : v3.cell? ⟨w.heap.size, 0, none⟩ = some (txt l) ∧ v3.cell? ⟨w.heap.size, 1, none⟩ = some (txt h) ∧ v3.cell? ⟨bC, 0, none⟩ = some (txt p0) ∧ v3.cell? ⟨bC, 1, none⟩ = some (txt q0) ∧ v3.cell? ⟨bD, 0, none⟩ = some (txt p0) ∧ v3.cell? ⟨bD, 1, none⟩ = some (txt q0) ∧ v3.cell? ⟨bF, 0, none⟩ = some (txt p1) ∧ v3.cell? ⟨bF, 1, none⟩ = some (txt q1) ∧ v3.cell? ⟨bG, 0, none⟩ = some (txt p1) ∧ v3.cell? ⟨bG, 1, none⟩ = some (txt q1) := ⟨hE.cell hS.1, hE.cell hS.2.1, hE.cell hS.2.2.1, hE.cell hS.2.2.2.1, hE.cell hS.2.2.2.2.1, hE.cell hS.2.2.2.2.2.1, hE.cell hS.2.2.2.2.2.2.1, hE.cell hS.2.2.2.2.2.2.2.1, hE.cell hS.2.2.2.2.2.2.2.2.1, hE.cell hS.2.2.2.2.2.2.2.2.2⟩
  clear hE hHeld
  ((refine eTk 6 ?_); (refine eTk 7 ?_); (refine eTk 8 ?_); (refine eTk 9 ?_); (refine eTk 10 ?_); (refine eTk 11 ?_); (refine eTk 12 ?_); (refine eTk 13 ?_); (refine eTk 14 ?_); (refine eTk 15 ?_); (refine eTk 16 ?_); (refine eTk 17 ?_); (refine eTk 18 ?_); (refine eTk 19 ?_); (refine eTk 20 ?_); (refine eTk 21 ?_); (refine eTk 22 ?_); (refine eTk 23 ?_); (refine eTk 24 ?_); (refine eTk 25 ?_); (refine eTk 26 ?_); (refine eTk 27 ?_); (refine eTk 28 ?_); (refine eTk 29 ?_); (refine eTk 30 ?_); (refine eTk 31 ?_); (refine eTk 32 ?_); (refine eTk 33 ?_); (refine eTk 34 ?_); (refine eTk 35 ?_); (refine eTk 36 ?_); (refine eTk 37 ?_))
  ((refine ePu 38 ?_))
  clear hS
  refine wpAnyE_done (by kernel_rfl) ?_ _
  go_wp2_with fail
  go_ret
  exact ⟨rfl, E⟩
end Go.Proofs.YtdejgaiocjfhjaaGreatDoor
