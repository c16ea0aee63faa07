/- Steps of the proof: ELEq. No conditions. -/
import Derived.Test.YtdejgaiocjfhjaaGreatDoorZEB1
import Derived.Test.YtdejgaiocjfhjaaGreatDoorZEB2
import Derived.Test.YtdejgaiocjfhjaaGreatDoorZEB3
import Derived.Test.YtdejgaiocjfhjaaGreatDoorZEB4
import Derived.Test.YtdejgaiocjfhjaaGreatDoorZEB5
import Derived.Test.YtdejgaiocjfhjaaGreatDoorZEB6
import Derived.Test.YtdejgaiocjfhjaaGreatDoorZEB7
import Derived.Test.YtdejgaiocjfhjaaGreatDoorZEB8
import Derived.Test.YtdejgaiocjfhjaaGreatDoorZEB9
import Derived.Test.YtdejgaiocjfhjaaGreatDoorZEB10
import Derived.Test.YtdejgaiocjfhjaaGreatDoorZEB11
import Derived.Test.YtdejgaiocjfhjaaGreatDoorZEB12
namespace Go.Proofs.YtdejgaiocjfhjaaGreatDoor
open Go.RowKit
set_option maxHeartbeats 16000000 in
set_option maxRecDepth 100000 in
theorem lawSquares_any (a : Enc) (w : World) (hG : Glob w) : Calls Tryz.prog 3 #[encV a] w (TrueP w) := by
  have HG := Lib.hid hG
  clear hG
  have HA : Hid (∀ W, Ext w W → Calls Tryz.prog 15 #[] W fun e w' => e = .returned (.bool true) ∧ Ext W w') := fun W h => awake2_any W (HG.out.ext h)
  unfold TrueP
  have HF := Lib.hid (fun W => few2_any a W)
  have hl : fewE a = true → LenE a := fewE_len
  cases hfew : fewE a
  · rw [hfew] at HF
    obtain ⟨l, h⟩ := a
    dsimp only [encV] at HF ⊢
    clear hl hfew HG
    have A : EncAt (w.heap.size) (w.alloc (.cells #[txt l, txt h] 24)) l h := ⟨by go_simp, by go_simp, by go_simp, by go_simp⟩
    have E : Ext w (w.alloc (.cells #[txt l, txt h] 24)) := extA
    go_enter Tryz.func3, Tryz.ntmps3
    go_wp2_with fail
    generalize (w.alloc (.cells #[txt l, txt h] 24)) = w0 at A E ⊢
    refine (HF.out _).mono ?_
    rintro e w1 ⟨rfl, hE⟩
    replace E := E.trans hE
    replace A := A.ext hE
    clear hE
    have A' := A
    obtain ⟨A0, A1, A2, A3⟩ := A
    have zA := cell_lt A0
    dsimp only at zA
    go_wp2_with fail
    clear A0 A1 A2 A3 zA
    have A := A'
    clear A'
    refine (HA.out _ E).mono ?_
    rintro e w2 ⟨rfl, hE⟩
    replace E := E.trans hE
    replace A := A.ext hE
    clear hE
    go_wp2_with fail
    go_ret
    exact ⟨rfl, E⟩
  · rw [hfew] at HF
    have hl := hl hfew
    have X1 := Lib.hid (fun W (h : Ext w W) => eSquare_any a W (HG.out.ext h) hl)
    have X2 := Lib.hid (fun W => rSquare2_any a W hl)
    have X3 := Lib.hid (fun W (h : Ext w W) => eWidth_any a W (HG.out.ext h) hl)
    have X4 := Lib.hid (fun W => rWidth_any a W hl)
    unfold EncP at X1 X2
    unfold ResP at X3 X4
    generalize squareE a = S at X1 X2
    generalize widthE a = D at X3 X4
    obtain ⟨⟨s1, s2⟩, s3⟩ := S
    obtain ⟨d1, d2⟩ := D
    obtain ⟨l, h⟩ := a
    dsimp only [encV] at X1 X2 X3 X4 HF ⊢
    clear hl hfew HG
    have A : EncAt (w.heap.size) (w.alloc (.cells #[txt l, txt h] 24)) l h := ⟨by go_simp, by go_simp, by go_simp, by go_simp⟩
    have E : Ext w (w.alloc (.cells #[txt l, txt h] 24)) := extA
    go_enter Tryz.func3, Tryz.ntmps3
    go_wp2_with fail
    generalize (w.alloc (.cells #[txt l, txt h] 24)) = w0 at A E ⊢
    refine (HF.out _).mono ?_
    rintro e w1 ⟨rfl, hE⟩
    replace E := E.trans hE
    replace A := A.ext hE
    clear hE
    have A' := A
    obtain ⟨A0, A1, A2, A3⟩ := A
    have zA := cell_lt A0
    dsimp only at zA
    go_wp2_with fail
    clear A0 A1 A2 A3 zA
    have A := A'
    clear A'
    refine (X1.out _ E).mono ?_
    rintro e w2 ⟨rfl, hE⟩
    replace E := E.trans hE
    replace A := A.ext hE
    clear hE
    have A' := A
    obtain ⟨A0, A1, A2, A3⟩ := A
    have zA := cell_lt A0
    dsimp only at zA
    have C : EncAt (w2.heap.size) (w2.alloc (.cells #[txt s1, txt s2] 24)) s1 s2 := ⟨by go_simp, by go_simp, by go_simp, by go_simp⟩
    have EA : Ext w2 (w2.alloc (.cells #[txt s1, txt s2] 24)) := extA
    replace A' := A'.ext EA
    replace E := E.trans EA
    clear EA
    go_wp2_with fail
    clear A0 A1 A2 A3 zA
    have A := A'
    clear A'
    obtain ⟨bC, hbC⟩ : ∃ b, b = w2.heap.size := ⟨_, rfl⟩
    rw [← hbC] at C  ⊢
    generalize (w2.alloc (.cells #[txt s1, txt s2] 24)) = w3 at A C E ⊢
    clear hbC
    refine (X2.out _).mono ?_
    rintro e w4 ⟨rfl, hE⟩
    replace E := E.trans hE
    replace A := A.ext hE
    replace C := C.ext hE
    clear hE
    have A' := A
    have C' := C
    obtain ⟨A0, A1, A2, A3⟩ := A
    have zA := cell_lt A0
    dsimp only at zA
    obtain ⟨C0, C1, C2, C3⟩ := C
    have zC := cell_lt C0
    dsimp only at zC
    have D : EncAt (w4.heap.size) (w4.alloc (.cells #[txt s1, txt s2] 24)) s1 s2 := ⟨by go_simp, by go_simp, by go_simp, by go_simp⟩
    have EA : Ext w4 (w4.alloc (.cells #[txt s1, txt s2] 24)) := extA
    replace A' := A'.ext EA
    replace C' := C'.ext EA
    replace E := E.trans EA
    clear EA
    go_wp2_with fail
    clear A0 A1 A2 A3 zA C0 C1 C2 C3 zC
    have A := A'
    clear A'
    have C := C'
    clear C'
    obtain ⟨bD, hbD⟩ : ∃ b, b = w4.heap.size := ⟨_, rfl⟩
    rw [← hbD] at D  ⊢
    generalize (w4.alloc (.cells #[txt s1, txt s2] 24)) = w5 at A C D E ⊢
    clear hbD
    refine (X3.out _ E).mono ?_
    rintro e w6 ⟨rfl, hE⟩
    replace E := E.trans hE
    replace A := A.ext hE
    replace C := C.ext hE
    replace D := D.ext hE
    clear hE
    have A' := A
    have C' := C
    have D' := D
    obtain ⟨A0, A1, A2, A3⟩ := A
    have zA := cell_lt A0
    dsimp only at zA
    obtain ⟨C0, C1, C2, C3⟩ := C
    have zC := cell_lt C0
    dsimp only at zC
    obtain ⟨D0, D1, D2, D3⟩ := D
    have zD := cell_lt D0
    dsimp only at zD
    go_wp2_with fail
    clear A0 A1 A2 A3 zA C0 C1 C2 C3 zC D0 D1 D2 D3 zD
    have A := A'
    clear A'
    have C := C'
    clear C'
    have D := D'
    clear D'
    refine (X4.out _).mono ?_
    rintro e w7 ⟨rfl, hE⟩
    replace E := E.trans hE
    replace A := A.ext hE
    replace C := C.ext hE
    replace D := D.ext hE
    clear hE
    have A' := A
    have C' := C
    have D' := D
    obtain ⟨A0, A1, A2, A3⟩ := A
    have zA := cell_lt A0
    dsimp only at zA
    obtain ⟨C0, C1, C2, C3⟩ := C
    have zC := cell_lt C0
    dsimp only at zC
    obtain ⟨D0, D1, D2, D3⟩ := D
    have zD := cell_lt D0
    dsimp only at zD
    go_wp2_with fail
    clear A0 A1 A2 A3 zA C0 C1 C2 C3 zC D0 D1 D2 D3 zD
    have A := A'
    clear A'
    have C := C'
    clear C'
    have D := D'
    clear D'
    refine (HA.out _ E).mono ?_
    rintro e w8 ⟨rfl, hE⟩
    replace E := E.trans hE
    replace A := A.ext hE
    replace C := C.ext hE
    replace D := D.ext hE
    clear hE
    obtain ⟨A0, A1, A2, A3⟩ := A
    have zA := cell_lt A0
    dsimp only at zA
    obtain ⟨C0, C1, C2, C3⟩ := C
    have zC := cell_lt C0
    dsimp only at zC
    obtain ⟨D0, D1, D2, D3⟩ := D
    have zD := cell_lt D0
    dsimp only at zD
    go_wp2_with fail
    go_ret
    exact ⟨rfl, E⟩
end Go.Proofs.YtdejgaiocjfhjaaGreatDoor
