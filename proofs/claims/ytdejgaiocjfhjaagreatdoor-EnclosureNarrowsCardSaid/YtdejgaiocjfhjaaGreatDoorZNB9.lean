/- Steps of the proof: EMeet, EMeetR, EBel, EEnds, EAdd, EAddR, EBest, EDig, EWrB, EProd. No conditions. -/
import Derived.LoopN
import Derived.Test.YtdejgaiocjfhjaaGreatDoorZNB1
import Derived.Test.YtdejgaiocjfhjaaGreatDoorZNB2
import Derived.Test.YtdejgaiocjfhjaaGreatDoorZNB3
import Derived.Test.YtdejgaiocjfhjaaGreatDoorZNB4
import Derived.Test.YtdejgaiocjfhjaaGreatDoorZNB5
import Derived.Test.YtdejgaiocjfhjaaGreatDoorZNB6
import Derived.Test.YtdejgaiocjfhjaaGreatDoorZNB7
import Derived.Test.YtdejgaiocjfhjaaGreatDoorZNB8
namespace Go.Proofs.YtdejgaiocjfhjaaGreatDoor
open Go.RowKit
theorem results_cell_tmp_tmp {fn : Func} {p u v : Tmp} {ty : TypeId} (h : fn.results = #[.cell p ty, .tmp u, .tmp v]) (tmps : Array Value) (P : Program) (w : World) :
    (results fn tmps).run P w = ((asAddr (tmps.getD p undef)).run P w).andThen fun a w₁ => ((loadVar ty a).run P w₁).andThen fun x w₂ => .ok (.tuple #[x, tmps.getD u undef, tmps.getD v undef]) w₂ := by
  simp only [results, h]
  simp [Sem.run_bind, Result.andThen]
def MeetP (r : Enc × Bool × Nat) (w : World) (e : Ending) (w' : World) : Prop := e = .returned (.tuple #[encV r.1, .bool r.2.1, .int .i64 (r.2.2 : Nat)]) ∧ Ext w w'
set_option maxHeartbeats 16000000 in
set_option maxRecDepth 100000 in
theorem eMeet_any (a b : Enc) (w : World) (hG : Glob w) (hl : LenE a) (hm : LenE b) : Calls Tryz.prog 28 #[encV a, encV b] w (MeetP (meetE a b) w) := by
  have HB := Lib.hid (checked_two a b w hG hl hm)
  unfold MeetP
  obtain ⟨C, hC⟩ : ∃ C, C = meetE a b := ⟨_, rfl⟩
  rw [← hC]
  have hne0 : (((0 : Nat) : Int) != 0) = false := rfl
  by_cases e0 : bothEE a b = 0
  rotate_left
  · have HR : Hid (C = (([], []), false, bothEE a b)) := by show _ = _; rw [hC]; unfold meetE; rw [if_pos e0]
    have hne : (((bothEE a b : Nat) : Int) != 0) = true := by rw [bne_iff_ne]; omega
    clear e0 hC hl hm hG
    generalize bothEE a b = n at *
    obtain ⟨l, h⟩ := a
    obtain ⟨m, k⟩ := b
    dsimp only [encV] at HB ⊢
    have c0 : ((((w.alloc (.cells #[txt l, txt h] 24)).alloc (.cells #[txt m, txt k] 24)).alloc (.cells #[.string ⟨#[]⟩, .string ⟨#[]⟩] 24)).alloc (.cells #[txt l, txt h, txt m, txt k] 24)).cell? ⟨w.heap.size, 0, none⟩ = some (txt l) := by go_simp
    have c1 : ((((w.alloc (.cells #[txt l, txt h] 24)).alloc (.cells #[txt m, txt k] 24)).alloc (.cells #[.string ⟨#[]⟩, .string ⟨#[]⟩] 24)).alloc (.cells #[txt l, txt h, txt m, txt k] 24)).cell? ⟨w.heap.size, 1, none⟩ = some (txt h) := by go_simp
    have c2 : ((((w.alloc (.cells #[txt l, txt h] 24)).alloc (.cells #[txt m, txt k] 24)).alloc (.cells #[.string ⟨#[]⟩, .string ⟨#[]⟩] 24)).alloc (.cells #[txt l, txt h, txt m, txt k] 24)).cell? ⟨w.heap.size + 1, 0, none⟩ = some (txt m) := by go_simp
    have c3 : ((((w.alloc (.cells #[txt l, txt h] 24)).alloc (.cells #[txt m, txt k] 24)).alloc (.cells #[.string ⟨#[]⟩, .string ⟨#[]⟩] 24)).alloc (.cells #[txt l, txt h, txt m, txt k] 24)).cell? ⟨w.heap.size + 1, 1, none⟩ = some (txt k) := by go_simp
    have X : EncAt (w.heap.size + 1 + 1) ((((w.alloc (.cells #[txt l, txt h] 24)).alloc (.cells #[txt m, txt k] 24)).alloc (.cells #[.string ⟨#[]⟩, .string ⟨#[]⟩] 24)).alloc (.cells #[txt l, txt h, txt m, txt k] 24)) [] [] := ⟨by go_simp, by go_simp, by go_simp, by go_simp⟩
    have hZ : Ext w ((((w.alloc (.cells #[txt l, txt h] 24)).alloc (.cells #[txt m, txt k] 24)).alloc (.cells #[.string ⟨#[]⟩, .string ⟨#[]⟩] 24)).alloc (.cells #[txt l, txt h, txt m, txt k] 24)) := extA
    go_enter Tryz.func28, Tryz.ntmps28
    go_wp2_with (go_at_call 79; (refine (HB.out _ (((w.alloc (.cells #[txt l, txt h] 24)).alloc (.cells #[txt m, txt k] 24)).alloc (.cells #[.string ⟨#[]⟩, .string ⟨#[]⟩] 24)) _ (by simp) rfl extA).mono ?_); rintro e w3 ⟨rfl, hE3⟩; have c0 := hE3.cell c0; have c1 := hE3.cell c1; have c2 := hE3.cell c2; have c3 := hE3.cell c3; have b0 := cell_lt c0; have b1 := cell_lt c2; dsimp only at b0 b1; obtain ⟨d0, d1, g0, g1⟩ := X.ext hE3)
    refine bodyPost_ret (v := .tuple #[.agg #[txt [], txt []], .bool false, .int .i64 (n : Nat)]) (by rw [results_cell_tmp_tmp rfl]; go_simp) rfl ?_
    exact ⟨by first | (rw [HR.out]; done) | (rw [HR.out]; rfl), extA⟩
  obtain ⟨ea, eb⟩ := bothEE_two e0
  obtain ⟨f1, f2, _⟩ := enc_right ea
  obtain ⟨f3, f4, _⟩ := enc_right eb
  have HO1 := Lib.hid (fun W (h : Ext w W) => eOrder_any b.1 a.1 W (hG.ext h) hm.1 hl.1 (bothE_zero f3 f1))
  have HO2 := Lib.hid (fun W (h : Ext w W) => eOrder_any b.2 a.2 W (hG.ext h) hm.2 hl.2 (bothE_zero f4 f2))
  have HO3 : Hid (∀ x y, (x = a.1 ∨ x = b.1) → (y = a.2 ∨ y = b.2) → ∀ W, Ext w W → Calls Tryz.prog 84 #[txt x, txt y] W fun e w' => e = .returned (.int .i64 (ordQ x y)) ∧ Ext W w') := fun x y hx hy W h => by
    refine eOrder_any x y W (hG.ext h) ?_ ?_ ?_
    · rcases hx with rfl | rfl
      · exact hl.1
      · exact hm.1
    · rcases hy with rfl | rfl
      · exact hl.2
      · exact hm.2
    · rcases hx with rfl | rfl <;> rcases hy with rfl | rfl
      · exact bothE_zero f1 f2
      · exact bothE_zero f1 f4
      · exact bothE_zero f3 f2
      · exact bothE_zero f3 f4
  have HR : Hid (∀ x y, x = (if 0 < ordQ b.1 a.1 then b.1 else a.1) → y = (if ordQ b.2 a.2 < 0 then b.2 else a.2) → C = if 0 < ordQ x y then (([], []), false, 0) else ((x, y), true, 0)) := fun x y hx hy => by
    have e1 : lowMeet a b = x := hx.symm
    have e2 : highMeet a b = y := hy.symm
    rw [hC]
    unfold meetE commonE
    rw [if_neg (not_not_intro e0), e1, e2]
    split <;> rfl
  rw [e0] at HB
  clear e0 ea eb f1 f2 f3 f4 hl hm hG hC
  obtain ⟨l, h⟩ := a
  obtain ⟨m, k⟩ := b
  dsimp only [encV] at HB HO1 HO2 HO3 HR ⊢
  generalize ordQ m l = z1 at *
  generalize ordQ k h = z2 at *
  by_cases h1 : 0 < z1
  · have HR1 := HR
    by_cases h2 : z2 < 0
    · have HRX : Hid (C = if 0 < ordQ m k then (([], []), false, 0) else ((m, k), true, 0)) := HR1.out m k (by rw [if_pos h1]) (by rw [if_pos h2])
      have HO4 := Lib.hid (HO3.out m k (.inr rfl) (.inr rfl))
      clear HR1 HR HO3
      generalize ordQ m k = z3 at HRX HO4
      by_cases h3 : 0 < z3
      · rw [if_pos h3] at HRX
        have c0 : ((((w.alloc (.cells #[txt l, txt h] 24)).alloc (.cells #[txt m, txt k] 24)).alloc (.cells #[.string ⟨#[]⟩, .string ⟨#[]⟩] 24)).alloc (.cells #[txt l, txt h, txt m, txt k] 24)).cell? ⟨w.heap.size, 0, none⟩ = some (txt l) := by go_simp
        have c1 : ((((w.alloc (.cells #[txt l, txt h] 24)).alloc (.cells #[txt m, txt k] 24)).alloc (.cells #[.string ⟨#[]⟩, .string ⟨#[]⟩] 24)).alloc (.cells #[txt l, txt h, txt m, txt k] 24)).cell? ⟨w.heap.size, 1, none⟩ = some (txt h) := by go_simp
        have c2 : ((((w.alloc (.cells #[txt l, txt h] 24)).alloc (.cells #[txt m, txt k] 24)).alloc (.cells #[.string ⟨#[]⟩, .string ⟨#[]⟩] 24)).alloc (.cells #[txt l, txt h, txt m, txt k] 24)).cell? ⟨w.heap.size + 1, 0, none⟩ = some (txt m) := by go_simp
        have c3 : ((((w.alloc (.cells #[txt l, txt h] 24)).alloc (.cells #[txt m, txt k] 24)).alloc (.cells #[.string ⟨#[]⟩, .string ⟨#[]⟩] 24)).alloc (.cells #[txt l, txt h, txt m, txt k] 24)).cell? ⟨w.heap.size + 1, 1, none⟩ = some (txt k) := by go_simp
        have X : EncAt (w.heap.size + 1 + 1) ((((w.alloc (.cells #[txt l, txt h] 24)).alloc (.cells #[txt m, txt k] 24)).alloc (.cells #[.string ⟨#[]⟩, .string ⟨#[]⟩] 24)).alloc (.cells #[txt l, txt h, txt m, txt k] 24)) [] [] := ⟨by go_simp, by go_simp, by go_simp, by go_simp⟩
        have hZ : Ext w ((((w.alloc (.cells #[txt l, txt h] 24)).alloc (.cells #[txt m, txt k] 24)).alloc (.cells #[.string ⟨#[]⟩, .string ⟨#[]⟩] 24)).alloc (.cells #[txt l, txt h, txt m, txt k] 24)) := extA
        have P : EncAt w.heap.size ((((w.alloc (.cells #[txt l, txt h] 24)).alloc (.cells #[txt m, txt k] 24)).alloc (.cells #[.string ⟨#[]⟩, .string ⟨#[]⟩] 24)).alloc (.cells #[txt l, txt h, txt m, txt k] 24)) l h := ⟨c0, c1, by go_simp, by go_simp⟩
        have Q : EncAt (w.heap.size + 1) ((((w.alloc (.cells #[txt l, txt h] 24)).alloc (.cells #[txt m, txt k] 24)).alloc (.cells #[.string ⟨#[]⟩, .string ⟨#[]⟩] 24)).alloc (.cells #[txt l, txt h, txt m, txt k] 24)) m k := ⟨c2, c3, by go_simp, by go_simp⟩
        go_enter Tryz.func28, Tryz.ntmps28
        go_wp2_with (go_at_call 79; (refine (HB.out _ (((w.alloc (.cells #[txt l, txt h] 24)).alloc (.cells #[txt m, txt k] 24)).alloc (.cells #[.string ⟨#[]⟩, .string ⟨#[]⟩] 24)) _ (by simp) rfl extA).mono ?_); rintro e w3 ⟨rfl, hE3⟩; have c0 := hE3.cell c0; have c1 := hE3.cell c1; have c2 := hE3.cell c2; have c3 := hE3.cell c3; have b0 := cell_lt c0; have b1 := cell_lt c2; dsimp only at b0 b1)
        have hA : Ext w3 (w3.alloc (.cells #[txt l, txt h] 24)) := extA
        have Y : EncAt w3.heap.size (w3.alloc (.cells #[txt l, txt h] 24)) l h := ⟨by go_simp, by go_simp, by go_simp, by go_simp⟩
        have s3 : w.heap.size + 1 + 1 < w3.heap.size := cell_lt (X.ext hE3).c0
        have E := (hZ.trans hE3).trans hA
        replace X := (X.ext hE3).ext hA
        replace P := (P.ext hE3).ext hA
        replace Q := (Q.ext hE3).ext hA
        obtain ⟨ob, hob⟩ : ∃ ob, ob = w3.heap.size := ⟨_, rfl⟩
        have n0 : w.heap.size ≠ ob := by omega
        have n1 : w.heap.size + 1 ≠ ob := by omega
        have n2 : w.heap.size + 1 + 1 ≠ ob := by omega
        have hwb : w.heap.size ≤ ob := by omega
        rw [← hob] at Y ⊢
        generalize w3.alloc (.cells #[txt l, txt h] 24) = w4 at Y E X P Q ⊢
        clear hA hE3 hZ s3 hob b0 b1 c0 c1 c2 c3
        go_wp2_with (go_at_call 84; have hh := HO1; clear HO1; (refine (hh.out _ E).mono ?_); clear hh; rintro e w5 ⟨rfl, hE⟩; have P5 := Lib.hid ((P).ext hE); have Q5 := Lib.hid ((Q).ext hE); have X5 := Lib.hid ((X).ext hE); have Y5 := Lib.hid ((Y).ext hE); obtain ⟨c0, c1, _, _⟩ := P5.out; obtain ⟨c2, c3, _, _⟩ := Q5.out; obtain ⟨d0, d1, g0, g1⟩ := X5.out; obtain ⟨y0, y1, p0, p1⟩ := Y5.out)
        replace E := E.trans hE
        clear P Q X Y hE c0 c1 c2 c3 d0 d1 g0 g1 y0 y1 p0 p1
        have P := P5.out.other (o := 0) (v := txt m) n0
        have Q := Q5.out.other (o := 0) (v := txt m) n1
        have X := X5.out.other (o := 0) (v := txt m) n2
        have Y := Y5.out.set0 m
        replace E := E.set hwb (o := 0) (txt m)
        clear P5 Q5 X5 Y5
        go_wp2_with (go_at_call 84; have hh := HO2; clear HO2; (refine (hh.out _ E).mono ?_); clear hh; rintro e w6 ⟨rfl, hE⟩; have P5 := Lib.hid ((P).ext hE); have Q5 := Lib.hid ((Q).ext hE); have X5 := Lib.hid ((X).ext hE); have Y5 := Lib.hid ((Y).ext hE); obtain ⟨c0, c1, _, _⟩ := P5.out; obtain ⟨c2, c3, _, _⟩ := Q5.out; obtain ⟨d0, d1, g0, g1⟩ := X5.out; obtain ⟨y0, y1, p0, p1⟩ := Y5.out)
        replace E := E.trans hE
        clear P Q X Y hE c0 c1 c2 c3 d0 d1 g0 g1 y0 y1 p0 p1
        have P := P5.out.other (o := 1) (v := txt k) n0
        have Q := Q5.out.other (o := 1) (v := txt k) n1
        have X := X5.out.other (o := 1) (v := txt k) n2
        have Y := Y5.out.set1 k
        replace E := E.set hwb (o := 1) (txt k)
        clear P5 Q5 X5 Y5
        go_wp2_with (go_at_call 84; (refine (HO4.out _ E).mono ?_); rintro e w7 ⟨rfl, hE⟩; have P5 := Lib.hid ((P).ext hE); have Q5 := Lib.hid ((Q).ext hE); have X5 := Lib.hid ((X).ext hE); have Y5 := Lib.hid ((Y).ext hE); obtain ⟨c0, c1, _, _⟩ := P5.out; obtain ⟨c2, c3, _, _⟩ := Q5.out; obtain ⟨d0, d1, g0, g1⟩ := X5.out; obtain ⟨y0, y1, p0, p1⟩ := Y5.out)
        replace E := E.trans hE
        refine bodyPost_ret (v := .tuple #[.agg #[txt [], txt []], .bool false, .int .i64 0]) (by rw [results_cell_tmp_tmp rfl]; go_simp) rfl ?_
        exact ⟨by first | (rw [HRX.out]; done) | (rw [HRX.out]; rfl), extA⟩
      · rw [if_neg h3] at HRX
        have c0 : ((((w.alloc (.cells #[txt l, txt h] 24)).alloc (.cells #[txt m, txt k] 24)).alloc (.cells #[.string ⟨#[]⟩, .string ⟨#[]⟩] 24)).alloc (.cells #[txt l, txt h, txt m, txt k] 24)).cell? ⟨w.heap.size, 0, none⟩ = some (txt l) := by go_simp
        have c1 : ((((w.alloc (.cells #[txt l, txt h] 24)).alloc (.cells #[txt m, txt k] 24)).alloc (.cells #[.string ⟨#[]⟩, .string ⟨#[]⟩] 24)).alloc (.cells #[txt l, txt h, txt m, txt k] 24)).cell? ⟨w.heap.size, 1, none⟩ = some (txt h) := by go_simp
        have c2 : ((((w.alloc (.cells #[txt l, txt h] 24)).alloc (.cells #[txt m, txt k] 24)).alloc (.cells #[.string ⟨#[]⟩, .string ⟨#[]⟩] 24)).alloc (.cells #[txt l, txt h, txt m, txt k] 24)).cell? ⟨w.heap.size + 1, 0, none⟩ = some (txt m) := by go_simp
        have c3 : ((((w.alloc (.cells #[txt l, txt h] 24)).alloc (.cells #[txt m, txt k] 24)).alloc (.cells #[.string ⟨#[]⟩, .string ⟨#[]⟩] 24)).alloc (.cells #[txt l, txt h, txt m, txt k] 24)).cell? ⟨w.heap.size + 1, 1, none⟩ = some (txt k) := by go_simp
        have X : EncAt (w.heap.size + 1 + 1) ((((w.alloc (.cells #[txt l, txt h] 24)).alloc (.cells #[txt m, txt k] 24)).alloc (.cells #[.string ⟨#[]⟩, .string ⟨#[]⟩] 24)).alloc (.cells #[txt l, txt h, txt m, txt k] 24)) [] [] := ⟨by go_simp, by go_simp, by go_simp, by go_simp⟩
        have hZ : Ext w ((((w.alloc (.cells #[txt l, txt h] 24)).alloc (.cells #[txt m, txt k] 24)).alloc (.cells #[.string ⟨#[]⟩, .string ⟨#[]⟩] 24)).alloc (.cells #[txt l, txt h, txt m, txt k] 24)) := extA
        have P : EncAt w.heap.size ((((w.alloc (.cells #[txt l, txt h] 24)).alloc (.cells #[txt m, txt k] 24)).alloc (.cells #[.string ⟨#[]⟩, .string ⟨#[]⟩] 24)).alloc (.cells #[txt l, txt h, txt m, txt k] 24)) l h := ⟨c0, c1, by go_simp, by go_simp⟩
        have Q : EncAt (w.heap.size + 1) ((((w.alloc (.cells #[txt l, txt h] 24)).alloc (.cells #[txt m, txt k] 24)).alloc (.cells #[.string ⟨#[]⟩, .string ⟨#[]⟩] 24)).alloc (.cells #[txt l, txt h, txt m, txt k] 24)) m k := ⟨c2, c3, by go_simp, by go_simp⟩
        go_enter Tryz.func28, Tryz.ntmps28
        go_wp2_with (go_at_call 79; (refine (HB.out _ (((w.alloc (.cells #[txt l, txt h] 24)).alloc (.cells #[txt m, txt k] 24)).alloc (.cells #[.string ⟨#[]⟩, .string ⟨#[]⟩] 24)) _ (by simp) rfl extA).mono ?_); rintro e w3 ⟨rfl, hE3⟩; have c0 := hE3.cell c0; have c1 := hE3.cell c1; have c2 := hE3.cell c2; have c3 := hE3.cell c3; have b0 := cell_lt c0; have b1 := cell_lt c2; dsimp only at b0 b1)
        have hA : Ext w3 (w3.alloc (.cells #[txt l, txt h] 24)) := extA
        have Y : EncAt w3.heap.size (w3.alloc (.cells #[txt l, txt h] 24)) l h := ⟨by go_simp, by go_simp, by go_simp, by go_simp⟩
        have s3 : w.heap.size + 1 + 1 < w3.heap.size := cell_lt (X.ext hE3).c0
        have E := (hZ.trans hE3).trans hA
        replace X := (X.ext hE3).ext hA
        replace P := (P.ext hE3).ext hA
        replace Q := (Q.ext hE3).ext hA
        obtain ⟨ob, hob⟩ : ∃ ob, ob = w3.heap.size := ⟨_, rfl⟩
        have n0 : w.heap.size ≠ ob := by omega
        have n1 : w.heap.size + 1 ≠ ob := by omega
        have n2 : w.heap.size + 1 + 1 ≠ ob := by omega
        have hwb : w.heap.size ≤ ob := by omega
        rw [← hob] at Y ⊢
        generalize w3.alloc (.cells #[txt l, txt h] 24) = w4 at Y E X P Q ⊢
        clear hA hE3 hZ s3 hob b0 b1 c0 c1 c2 c3
        go_wp2_with (go_at_call 84; have hh := HO1; clear HO1; (refine (hh.out _ E).mono ?_); clear hh; rintro e w5 ⟨rfl, hE⟩; have P5 := Lib.hid ((P).ext hE); have Q5 := Lib.hid ((Q).ext hE); have X5 := Lib.hid ((X).ext hE); have Y5 := Lib.hid ((Y).ext hE); obtain ⟨c0, c1, _, _⟩ := P5.out; obtain ⟨c2, c3, _, _⟩ := Q5.out; obtain ⟨d0, d1, g0, g1⟩ := X5.out; obtain ⟨y0, y1, p0, p1⟩ := Y5.out)
        replace E := E.trans hE
        clear P Q X Y hE c0 c1 c2 c3 d0 d1 g0 g1 y0 y1 p0 p1
        have P := P5.out.other (o := 0) (v := txt m) n0
        have Q := Q5.out.other (o := 0) (v := txt m) n1
        have X := X5.out.other (o := 0) (v := txt m) n2
        have Y := Y5.out.set0 m
        replace E := E.set hwb (o := 0) (txt m)
        clear P5 Q5 X5 Y5
        go_wp2_with (go_at_call 84; have hh := HO2; clear HO2; (refine (hh.out _ E).mono ?_); clear hh; rintro e w6 ⟨rfl, hE⟩; have P5 := Lib.hid ((P).ext hE); have Q5 := Lib.hid ((Q).ext hE); have X5 := Lib.hid ((X).ext hE); have Y5 := Lib.hid ((Y).ext hE); obtain ⟨c0, c1, _, _⟩ := P5.out; obtain ⟨c2, c3, _, _⟩ := Q5.out; obtain ⟨d0, d1, g0, g1⟩ := X5.out; obtain ⟨y0, y1, p0, p1⟩ := Y5.out)
        replace E := E.trans hE
        clear P Q X Y hE c0 c1 c2 c3 d0 d1 g0 g1 y0 y1 p0 p1
        have P := P5.out.other (o := 1) (v := txt k) n0
        have Q := Q5.out.other (o := 1) (v := txt k) n1
        have X := X5.out.other (o := 1) (v := txt k) n2
        have Y := Y5.out.set1 k
        replace E := E.set hwb (o := 1) (txt k)
        clear P5 Q5 X5 Y5
        go_wp2_with (go_at_call 84; (refine (HO4.out _ E).mono ?_); rintro e w7 ⟨rfl, hE⟩; have P5 := Lib.hid ((P).ext hE); have Q5 := Lib.hid ((Q).ext hE); have X5 := Lib.hid ((X).ext hE); have Y5 := Lib.hid ((Y).ext hE); obtain ⟨c0, c1, _, _⟩ := P5.out; obtain ⟨c2, c3, _, _⟩ := Q5.out; obtain ⟨d0, d1, g0, g1⟩ := X5.out; obtain ⟨y0, y1, p0, p1⟩ := Y5.out)
        replace E := E.trans hE
        refine bodyPost_ret (v := .tuple #[.agg #[txt m, txt k], .bool true, .int .i64 0]) (by rw [results_cell_tmp_tmp rfl]; go_simp) rfl ?_
        exact ⟨by first | (rw [HRX.out]; done) | (rw [HRX.out]; rfl), extA⟩
    · have HRX : Hid (C = if 0 < ordQ m h then (([], []), false, 0) else ((m, h), true, 0)) := HR1.out m h (by rw [if_pos h1]) (by rw [if_neg h2])
      have HO4 := Lib.hid (HO3.out m h (.inr rfl) (.inl rfl))
      clear HR1 HR HO3
      generalize ordQ m h = z3 at HRX HO4
      by_cases h3 : 0 < z3
      · rw [if_pos h3] at HRX
        have c0 : ((((w.alloc (.cells #[txt l, txt h] 24)).alloc (.cells #[txt m, txt k] 24)).alloc (.cells #[.string ⟨#[]⟩, .string ⟨#[]⟩] 24)).alloc (.cells #[txt l, txt h, txt m, txt k] 24)).cell? ⟨w.heap.size, 0, none⟩ = some (txt l) := by go_simp
        have c1 : ((((w.alloc (.cells #[txt l, txt h] 24)).alloc (.cells #[txt m, txt k] 24)).alloc (.cells #[.string ⟨#[]⟩, .string ⟨#[]⟩] 24)).alloc (.cells #[txt l, txt h, txt m, txt k] 24)).cell? ⟨w.heap.size, 1, none⟩ = some (txt h) := by go_simp
        have c2 : ((((w.alloc (.cells #[txt l, txt h] 24)).alloc (.cells #[txt m, txt k] 24)).alloc (.cells #[.string ⟨#[]⟩, .string ⟨#[]⟩] 24)).alloc (.cells #[txt l, txt h, txt m, txt k] 24)).cell? ⟨w.heap.size + 1, 0, none⟩ = some (txt m) := by go_simp
        have c3 : ((((w.alloc (.cells #[txt l, txt h] 24)).alloc (.cells #[txt m, txt k] 24)).alloc (.cells #[.string ⟨#[]⟩, .string ⟨#[]⟩] 24)).alloc (.cells #[txt l, txt h, txt m, txt k] 24)).cell? ⟨w.heap.size + 1, 1, none⟩ = some (txt k) := by go_simp
        have X : EncAt (w.heap.size + 1 + 1) ((((w.alloc (.cells #[txt l, txt h] 24)).alloc (.cells #[txt m, txt k] 24)).alloc (.cells #[.string ⟨#[]⟩, .string ⟨#[]⟩] 24)).alloc (.cells #[txt l, txt h, txt m, txt k] 24)) [] [] := ⟨by go_simp, by go_simp, by go_simp, by go_simp⟩
        have hZ : Ext w ((((w.alloc (.cells #[txt l, txt h] 24)).alloc (.cells #[txt m, txt k] 24)).alloc (.cells #[.string ⟨#[]⟩, .string ⟨#[]⟩] 24)).alloc (.cells #[txt l, txt h, txt m, txt k] 24)) := extA
        have P : EncAt w.heap.size ((((w.alloc (.cells #[txt l, txt h] 24)).alloc (.cells #[txt m, txt k] 24)).alloc (.cells #[.string ⟨#[]⟩, .string ⟨#[]⟩] 24)).alloc (.cells #[txt l, txt h, txt m, txt k] 24)) l h := ⟨c0, c1, by go_simp, by go_simp⟩
        have Q : EncAt (w.heap.size + 1) ((((w.alloc (.cells #[txt l, txt h] 24)).alloc (.cells #[txt m, txt k] 24)).alloc (.cells #[.string ⟨#[]⟩, .string ⟨#[]⟩] 24)).alloc (.cells #[txt l, txt h, txt m, txt k] 24)) m k := ⟨c2, c3, by go_simp, by go_simp⟩
        go_enter Tryz.func28, Tryz.ntmps28
        go_wp2_with (go_at_call 79; (refine (HB.out _ (((w.alloc (.cells #[txt l, txt h] 24)).alloc (.cells #[txt m, txt k] 24)).alloc (.cells #[.string ⟨#[]⟩, .string ⟨#[]⟩] 24)) _ (by simp) rfl extA).mono ?_); rintro e w3 ⟨rfl, hE3⟩; have c0 := hE3.cell c0; have c1 := hE3.cell c1; have c2 := hE3.cell c2; have c3 := hE3.cell c3; have b0 := cell_lt c0; have b1 := cell_lt c2; dsimp only at b0 b1)
        have hA : Ext w3 (w3.alloc (.cells #[txt l, txt h] 24)) := extA
        have Y : EncAt w3.heap.size (w3.alloc (.cells #[txt l, txt h] 24)) l h := ⟨by go_simp, by go_simp, by go_simp, by go_simp⟩
        have s3 : w.heap.size + 1 + 1 < w3.heap.size := cell_lt (X.ext hE3).c0
        have E := (hZ.trans hE3).trans hA
        replace X := (X.ext hE3).ext hA
        replace P := (P.ext hE3).ext hA
        replace Q := (Q.ext hE3).ext hA
        obtain ⟨ob, hob⟩ : ∃ ob, ob = w3.heap.size := ⟨_, rfl⟩
        have n0 : w.heap.size ≠ ob := by omega
        have n1 : w.heap.size + 1 ≠ ob := by omega
        have n2 : w.heap.size + 1 + 1 ≠ ob := by omega
        have hwb : w.heap.size ≤ ob := by omega
        rw [← hob] at Y ⊢
        generalize w3.alloc (.cells #[txt l, txt h] 24) = w4 at Y E X P Q ⊢
        clear hA hE3 hZ s3 hob b0 b1 c0 c1 c2 c3
        go_wp2_with (go_at_call 84; have hh := HO1; clear HO1; (refine (hh.out _ E).mono ?_); clear hh; rintro e w5 ⟨rfl, hE⟩; have P5 := Lib.hid ((P).ext hE); have Q5 := Lib.hid ((Q).ext hE); have X5 := Lib.hid ((X).ext hE); have Y5 := Lib.hid ((Y).ext hE); obtain ⟨c0, c1, _, _⟩ := P5.out; obtain ⟨c2, c3, _, _⟩ := Q5.out; obtain ⟨d0, d1, g0, g1⟩ := X5.out; obtain ⟨y0, y1, p0, p1⟩ := Y5.out)
        replace E := E.trans hE
        clear P Q X Y hE c0 c1 c2 c3 d0 d1 g0 g1 y0 y1 p0 p1
        have P := P5.out.other (o := 0) (v := txt m) n0
        have Q := Q5.out.other (o := 0) (v := txt m) n1
        have X := X5.out.other (o := 0) (v := txt m) n2
        have Y := Y5.out.set0 m
        replace E := E.set hwb (o := 0) (txt m)
        clear P5 Q5 X5 Y5
        go_wp2_with (go_at_call 84; have hh := HO2; clear HO2; (refine (hh.out _ E).mono ?_); clear hh; rintro e w6 ⟨rfl, hE⟩; have P5 := Lib.hid ((P).ext hE); have Q5 := Lib.hid ((Q).ext hE); have X5 := Lib.hid ((X).ext hE); have Y5 := Lib.hid ((Y).ext hE); obtain ⟨c0, c1, _, _⟩ := P5.out; obtain ⟨c2, c3, _, _⟩ := Q5.out; obtain ⟨d0, d1, g0, g1⟩ := X5.out; obtain ⟨y0, y1, p0, p1⟩ := Y5.out)
        replace E := E.trans hE
        clear P Q X Y hE c0 c1 c2 c3 d0 d1 g0 g1 y0 y1 p0 p1
        have P := P5.out
        have Q := Q5.out
        have X := X5.out
        have Y := Y5.out
        clear P5 Q5 X5 Y5
        go_wp2_with (go_at_call 84; (refine (HO4.out _ E).mono ?_); rintro e w7 ⟨rfl, hE⟩; have P5 := Lib.hid ((P).ext hE); have Q5 := Lib.hid ((Q).ext hE); have X5 := Lib.hid ((X).ext hE); have Y5 := Lib.hid ((Y).ext hE); obtain ⟨c0, c1, _, _⟩ := P5.out; obtain ⟨c2, c3, _, _⟩ := Q5.out; obtain ⟨d0, d1, g0, g1⟩ := X5.out; obtain ⟨y0, y1, p0, p1⟩ := Y5.out)
        replace E := E.trans hE
        refine bodyPost_ret (v := .tuple #[.agg #[txt [], txt []], .bool false, .int .i64 0]) (by rw [results_cell_tmp_tmp rfl]; go_simp) rfl ?_
        exact ⟨by first | (rw [HRX.out]; done) | (rw [HRX.out]; rfl), extA⟩
      · rw [if_neg h3] at HRX
        have c0 : ((((w.alloc (.cells #[txt l, txt h] 24)).alloc (.cells #[txt m, txt k] 24)).alloc (.cells #[.string ⟨#[]⟩, .string ⟨#[]⟩] 24)).alloc (.cells #[txt l, txt h, txt m, txt k] 24)).cell? ⟨w.heap.size, 0, none⟩ = some (txt l) := by go_simp
        have c1 : ((((w.alloc (.cells #[txt l, txt h] 24)).alloc (.cells #[txt m, txt k] 24)).alloc (.cells #[.string ⟨#[]⟩, .string ⟨#[]⟩] 24)).alloc (.cells #[txt l, txt h, txt m, txt k] 24)).cell? ⟨w.heap.size, 1, none⟩ = some (txt h) := by go_simp
        have c2 : ((((w.alloc (.cells #[txt l, txt h] 24)).alloc (.cells #[txt m, txt k] 24)).alloc (.cells #[.string ⟨#[]⟩, .string ⟨#[]⟩] 24)).alloc (.cells #[txt l, txt h, txt m, txt k] 24)).cell? ⟨w.heap.size + 1, 0, none⟩ = some (txt m) := by go_simp
        have c3 : ((((w.alloc (.cells #[txt l, txt h] 24)).alloc (.cells #[txt m, txt k] 24)).alloc (.cells #[.string ⟨#[]⟩, .string ⟨#[]⟩] 24)).alloc (.cells #[txt l, txt h, txt m, txt k] 24)).cell? ⟨w.heap.size + 1, 1, none⟩ = some (txt k) := by go_simp
        have X : EncAt (w.heap.size + 1 + 1) ((((w.alloc (.cells #[txt l, txt h] 24)).alloc (.cells #[txt m, txt k] 24)).alloc (.cells #[.string ⟨#[]⟩, .string ⟨#[]⟩] 24)).alloc (.cells #[txt l, txt h, txt m, txt k] 24)) [] [] := ⟨by go_simp, by go_simp, by go_simp, by go_simp⟩
        have hZ : Ext w ((((w.alloc (.cells #[txt l, txt h] 24)).alloc (.cells #[txt m, txt k] 24)).alloc (.cells #[.string ⟨#[]⟩, .string ⟨#[]⟩] 24)).alloc (.cells #[txt l, txt h, txt m, txt k] 24)) := extA
        have P : EncAt w.heap.size ((((w.alloc (.cells #[txt l, txt h] 24)).alloc (.cells #[txt m, txt k] 24)).alloc (.cells #[.string ⟨#[]⟩, .string ⟨#[]⟩] 24)).alloc (.cells #[txt l, txt h, txt m, txt k] 24)) l h := ⟨c0, c1, by go_simp, by go_simp⟩
        have Q : EncAt (w.heap.size + 1) ((((w.alloc (.cells #[txt l, txt h] 24)).alloc (.cells #[txt m, txt k] 24)).alloc (.cells #[.string ⟨#[]⟩, .string ⟨#[]⟩] 24)).alloc (.cells #[txt l, txt h, txt m, txt k] 24)) m k := ⟨c2, c3, by go_simp, by go_simp⟩
        go_enter Tryz.func28, Tryz.ntmps28
        go_wp2_with (go_at_call 79; (refine (HB.out _ (((w.alloc (.cells #[txt l, txt h] 24)).alloc (.cells #[txt m, txt k] 24)).alloc (.cells #[.string ⟨#[]⟩, .string ⟨#[]⟩] 24)) _ (by simp) rfl extA).mono ?_); rintro e w3 ⟨rfl, hE3⟩; have c0 := hE3.cell c0; have c1 := hE3.cell c1; have c2 := hE3.cell c2; have c3 := hE3.cell c3; have b0 := cell_lt c0; have b1 := cell_lt c2; dsimp only at b0 b1)
        have hA : Ext w3 (w3.alloc (.cells #[txt l, txt h] 24)) := extA
        have Y : EncAt w3.heap.size (w3.alloc (.cells #[txt l, txt h] 24)) l h := ⟨by go_simp, by go_simp, by go_simp, by go_simp⟩
        have s3 : w.heap.size + 1 + 1 < w3.heap.size := cell_lt (X.ext hE3).c0
        have E := (hZ.trans hE3).trans hA
        replace X := (X.ext hE3).ext hA
        replace P := (P.ext hE3).ext hA
        replace Q := (Q.ext hE3).ext hA
        obtain ⟨ob, hob⟩ : ∃ ob, ob = w3.heap.size := ⟨_, rfl⟩
        have n0 : w.heap.size ≠ ob := by omega
        have n1 : w.heap.size + 1 ≠ ob := by omega
        have n2 : w.heap.size + 1 + 1 ≠ ob := by omega
        have hwb : w.heap.size ≤ ob := by omega
        rw [← hob] at Y ⊢
        generalize w3.alloc (.cells #[txt l, txt h] 24) = w4 at Y E X P Q ⊢
        clear hA hE3 hZ s3 hob b0 b1 c0 c1 c2 c3
        go_wp2_with (go_at_call 84; have hh := HO1; clear HO1; (refine (hh.out _ E).mono ?_); clear hh; rintro e w5 ⟨rfl, hE⟩; have P5 := Lib.hid ((P).ext hE); have Q5 := Lib.hid ((Q).ext hE); have X5 := Lib.hid ((X).ext hE); have Y5 := Lib.hid ((Y).ext hE); obtain ⟨c0, c1, _, _⟩ := P5.out; obtain ⟨c2, c3, _, _⟩ := Q5.out; obtain ⟨d0, d1, g0, g1⟩ := X5.out; obtain ⟨y0, y1, p0, p1⟩ := Y5.out)
        replace E := E.trans hE
        clear P Q X Y hE c0 c1 c2 c3 d0 d1 g0 g1 y0 y1 p0 p1
        have P := P5.out.other (o := 0) (v := txt m) n0
        have Q := Q5.out.other (o := 0) (v := txt m) n1
        have X := X5.out.other (o := 0) (v := txt m) n2
        have Y := Y5.out.set0 m
        replace E := E.set hwb (o := 0) (txt m)
        clear P5 Q5 X5 Y5
        go_wp2_with (go_at_call 84; have hh := HO2; clear HO2; (refine (hh.out _ E).mono ?_); clear hh; rintro e w6 ⟨rfl, hE⟩; have P5 := Lib.hid ((P).ext hE); have Q5 := Lib.hid ((Q).ext hE); have X5 := Lib.hid ((X).ext hE); have Y5 := Lib.hid ((Y).ext hE); obtain ⟨c0, c1, _, _⟩ := P5.out; obtain ⟨c2, c3, _, _⟩ := Q5.out; obtain ⟨d0, d1, g0, g1⟩ := X5.out; obtain ⟨y0, y1, p0, p1⟩ := Y5.out)
        replace E := E.trans hE
        clear P Q X Y hE c0 c1 c2 c3 d0 d1 g0 g1 y0 y1 p0 p1
        have P := P5.out
        have Q := Q5.out
        have X := X5.out
        have Y := Y5.out
        clear P5 Q5 X5 Y5
        go_wp2_with (go_at_call 84; (refine (HO4.out _ E).mono ?_); rintro e w7 ⟨rfl, hE⟩; have P5 := Lib.hid ((P).ext hE); have Q5 := Lib.hid ((Q).ext hE); have X5 := Lib.hid ((X).ext hE); have Y5 := Lib.hid ((Y).ext hE); obtain ⟨c0, c1, _, _⟩ := P5.out; obtain ⟨c2, c3, _, _⟩ := Q5.out; obtain ⟨d0, d1, g0, g1⟩ := X5.out; obtain ⟨y0, y1, p0, p1⟩ := Y5.out)
        replace E := E.trans hE
        refine bodyPost_ret (v := .tuple #[.agg #[txt m, txt h], .bool true, .int .i64 0]) (by rw [results_cell_tmp_tmp rfl]; go_simp) rfl ?_
        exact ⟨by first | (rw [HRX.out]; done) | (rw [HRX.out]; rfl), extA⟩
  · have HR1 := HR
    by_cases h2 : z2 < 0
    · have HRX : Hid (C = if 0 < ordQ l k then (([], []), false, 0) else ((l, k), true, 0)) := HR1.out l k (by rw [if_neg h1]) (by rw [if_pos h2])
      have HO4 := Lib.hid (HO3.out l k (.inl rfl) (.inr rfl))
      clear HR1 HR HO3
      generalize ordQ l k = z3 at HRX HO4
      by_cases h3 : 0 < z3
      · rw [if_pos h3] at HRX
        have c0 : ((((w.alloc (.cells #[txt l, txt h] 24)).alloc (.cells #[txt m, txt k] 24)).alloc (.cells #[.string ⟨#[]⟩, .string ⟨#[]⟩] 24)).alloc (.cells #[txt l, txt h, txt m, txt k] 24)).cell? ⟨w.heap.size, 0, none⟩ = some (txt l) := by go_simp
        have c1 : ((((w.alloc (.cells #[txt l, txt h] 24)).alloc (.cells #[txt m, txt k] 24)).alloc (.cells #[.string ⟨#[]⟩, .string ⟨#[]⟩] 24)).alloc (.cells #[txt l, txt h, txt m, txt k] 24)).cell? ⟨w.heap.size, 1, none⟩ = some (txt h) := by go_simp
        have c2 : ((((w.alloc (.cells #[txt l, txt h] 24)).alloc (.cells #[txt m, txt k] 24)).alloc (.cells #[.string ⟨#[]⟩, .string ⟨#[]⟩] 24)).alloc (.cells #[txt l, txt h, txt m, txt k] 24)).cell? ⟨w.heap.size + 1, 0, none⟩ = some (txt m) := by go_simp
        have c3 : ((((w.alloc (.cells #[txt l, txt h] 24)).alloc (.cells #[txt m, txt k] 24)).alloc (.cells #[.string ⟨#[]⟩, .string ⟨#[]⟩] 24)).alloc (.cells #[txt l, txt h, txt m, txt k] 24)).cell? ⟨w.heap.size + 1, 1, none⟩ = some (txt k) := by go_simp
        have X : EncAt (w.heap.size + 1 + 1) ((((w.alloc (.cells #[txt l, txt h] 24)).alloc (.cells #[txt m, txt k] 24)).alloc (.cells #[.string ⟨#[]⟩, .string ⟨#[]⟩] 24)).alloc (.cells #[txt l, txt h, txt m, txt k] 24)) [] [] := ⟨by go_simp, by go_simp, by go_simp, by go_simp⟩
        have hZ : Ext w ((((w.alloc (.cells #[txt l, txt h] 24)).alloc (.cells #[txt m, txt k] 24)).alloc (.cells #[.string ⟨#[]⟩, .string ⟨#[]⟩] 24)).alloc (.cells #[txt l, txt h, txt m, txt k] 24)) := extA
        have P : EncAt w.heap.size ((((w.alloc (.cells #[txt l, txt h] 24)).alloc (.cells #[txt m, txt k] 24)).alloc (.cells #[.string ⟨#[]⟩, .string ⟨#[]⟩] 24)).alloc (.cells #[txt l, txt h, txt m, txt k] 24)) l h := ⟨c0, c1, by go_simp, by go_simp⟩
        have Q : EncAt (w.heap.size + 1) ((((w.alloc (.cells #[txt l, txt h] 24)).alloc (.cells #[txt m, txt k] 24)).alloc (.cells #[.string ⟨#[]⟩, .string ⟨#[]⟩] 24)).alloc (.cells #[txt l, txt h, txt m, txt k] 24)) m k := ⟨c2, c3, by go_simp, by go_simp⟩
        go_enter Tryz.func28, Tryz.ntmps28
        go_wp2_with (go_at_call 79; (refine (HB.out _ (((w.alloc (.cells #[txt l, txt h] 24)).alloc (.cells #[txt m, txt k] 24)).alloc (.cells #[.string ⟨#[]⟩, .string ⟨#[]⟩] 24)) _ (by simp) rfl extA).mono ?_); rintro e w3 ⟨rfl, hE3⟩; have c0 := hE3.cell c0; have c1 := hE3.cell c1; have c2 := hE3.cell c2; have c3 := hE3.cell c3; have b0 := cell_lt c0; have b1 := cell_lt c2; dsimp only at b0 b1)
        have hA : Ext w3 (w3.alloc (.cells #[txt l, txt h] 24)) := extA
        have Y : EncAt w3.heap.size (w3.alloc (.cells #[txt l, txt h] 24)) l h := ⟨by go_simp, by go_simp, by go_simp, by go_simp⟩
        have s3 : w.heap.size + 1 + 1 < w3.heap.size := cell_lt (X.ext hE3).c0
        have E := (hZ.trans hE3).trans hA
        replace X := (X.ext hE3).ext hA
        replace P := (P.ext hE3).ext hA
        replace Q := (Q.ext hE3).ext hA
        obtain ⟨ob, hob⟩ : ∃ ob, ob = w3.heap.size := ⟨_, rfl⟩
        have n0 : w.heap.size ≠ ob := by omega
        have n1 : w.heap.size + 1 ≠ ob := by omega
        have n2 : w.heap.size + 1 + 1 ≠ ob := by omega
        have hwb : w.heap.size ≤ ob := by omega
        rw [← hob] at Y ⊢
        generalize w3.alloc (.cells #[txt l, txt h] 24) = w4 at Y E X P Q ⊢
        clear hA hE3 hZ s3 hob b0 b1 c0 c1 c2 c3
        go_wp2_with (go_at_call 84; have hh := HO1; clear HO1; (refine (hh.out _ E).mono ?_); clear hh; rintro e w5 ⟨rfl, hE⟩; have P5 := Lib.hid ((P).ext hE); have Q5 := Lib.hid ((Q).ext hE); have X5 := Lib.hid ((X).ext hE); have Y5 := Lib.hid ((Y).ext hE); obtain ⟨c0, c1, _, _⟩ := P5.out; obtain ⟨c2, c3, _, _⟩ := Q5.out; obtain ⟨d0, d1, g0, g1⟩ := X5.out; obtain ⟨y0, y1, p0, p1⟩ := Y5.out)
        replace E := E.trans hE
        clear P Q X Y hE c0 c1 c2 c3 d0 d1 g0 g1 y0 y1 p0 p1
        have P := P5.out
        have Q := Q5.out
        have X := X5.out
        have Y := Y5.out
        clear P5 Q5 X5 Y5
        go_wp2_with (go_at_call 84; have hh := HO2; clear HO2; (refine (hh.out _ E).mono ?_); clear hh; rintro e w6 ⟨rfl, hE⟩; have P5 := Lib.hid ((P).ext hE); have Q5 := Lib.hid ((Q).ext hE); have X5 := Lib.hid ((X).ext hE); have Y5 := Lib.hid ((Y).ext hE); obtain ⟨c0, c1, _, _⟩ := P5.out; obtain ⟨c2, c3, _, _⟩ := Q5.out; obtain ⟨d0, d1, g0, g1⟩ := X5.out; obtain ⟨y0, y1, p0, p1⟩ := Y5.out)
        replace E := E.trans hE
        clear P Q X Y hE c0 c1 c2 c3 d0 d1 g0 g1 y0 y1 p0 p1
        have P := P5.out.other (o := 1) (v := txt k) n0
        have Q := Q5.out.other (o := 1) (v := txt k) n1
        have X := X5.out.other (o := 1) (v := txt k) n2
        have Y := Y5.out.set1 k
        replace E := E.set hwb (o := 1) (txt k)
        clear P5 Q5 X5 Y5
        go_wp2_with (go_at_call 84; (refine (HO4.out _ E).mono ?_); rintro e w7 ⟨rfl, hE⟩; have P5 := Lib.hid ((P).ext hE); have Q5 := Lib.hid ((Q).ext hE); have X5 := Lib.hid ((X).ext hE); have Y5 := Lib.hid ((Y).ext hE); obtain ⟨c0, c1, _, _⟩ := P5.out; obtain ⟨c2, c3, _, _⟩ := Q5.out; obtain ⟨d0, d1, g0, g1⟩ := X5.out; obtain ⟨y0, y1, p0, p1⟩ := Y5.out)
        replace E := E.trans hE
        refine bodyPost_ret (v := .tuple #[.agg #[txt [], txt []], .bool false, .int .i64 0]) (by rw [results_cell_tmp_tmp rfl]; go_simp) rfl ?_
        exact ⟨by first | (rw [HRX.out]; done) | (rw [HRX.out]; rfl), extA⟩
      · rw [if_neg h3] at HRX
        have c0 : ((((w.alloc (.cells #[txt l, txt h] 24)).alloc (.cells #[txt m, txt k] 24)).alloc (.cells #[.string ⟨#[]⟩, .string ⟨#[]⟩] 24)).alloc (.cells #[txt l, txt h, txt m, txt k] 24)).cell? ⟨w.heap.size, 0, none⟩ = some (txt l) := by go_simp
        have c1 : ((((w.alloc (.cells #[txt l, txt h] 24)).alloc (.cells #[txt m, txt k] 24)).alloc (.cells #[.string ⟨#[]⟩, .string ⟨#[]⟩] 24)).alloc (.cells #[txt l, txt h, txt m, txt k] 24)).cell? ⟨w.heap.size, 1, none⟩ = some (txt h) := by go_simp
        have c2 : ((((w.alloc (.cells #[txt l, txt h] 24)).alloc (.cells #[txt m, txt k] 24)).alloc (.cells #[.string ⟨#[]⟩, .string ⟨#[]⟩] 24)).alloc (.cells #[txt l, txt h, txt m, txt k] 24)).cell? ⟨w.heap.size + 1, 0, none⟩ = some (txt m) := by go_simp
        have c3 : ((((w.alloc (.cells #[txt l, txt h] 24)).alloc (.cells #[txt m, txt k] 24)).alloc (.cells #[.string ⟨#[]⟩, .string ⟨#[]⟩] 24)).alloc (.cells #[txt l, txt h, txt m, txt k] 24)).cell? ⟨w.heap.size + 1, 1, none⟩ = some (txt k) := by go_simp
        have X : EncAt (w.heap.size + 1 + 1) ((((w.alloc (.cells #[txt l, txt h] 24)).alloc (.cells #[txt m, txt k] 24)).alloc (.cells #[.string ⟨#[]⟩, .string ⟨#[]⟩] 24)).alloc (.cells #[txt l, txt h, txt m, txt k] 24)) [] [] := ⟨by go_simp, by go_simp, by go_simp, by go_simp⟩
        have hZ : Ext w ((((w.alloc (.cells #[txt l, txt h] 24)).alloc (.cells #[txt m, txt k] 24)).alloc (.cells #[.string ⟨#[]⟩, .string ⟨#[]⟩] 24)).alloc (.cells #[txt l, txt h, txt m, txt k] 24)) := extA
        have P : EncAt w.heap.size ((((w.alloc (.cells #[txt l, txt h] 24)).alloc (.cells #[txt m, txt k] 24)).alloc (.cells #[.string ⟨#[]⟩, .string ⟨#[]⟩] 24)).alloc (.cells #[txt l, txt h, txt m, txt k] 24)) l h := ⟨c0, c1, by go_simp, by go_simp⟩
        have Q : EncAt (w.heap.size + 1) ((((w.alloc (.cells #[txt l, txt h] 24)).alloc (.cells #[txt m, txt k] 24)).alloc (.cells #[.string ⟨#[]⟩, .string ⟨#[]⟩] 24)).alloc (.cells #[txt l, txt h, txt m, txt k] 24)) m k := ⟨c2, c3, by go_simp, by go_simp⟩
        go_enter Tryz.func28, Tryz.ntmps28
        go_wp2_with (go_at_call 79; (refine (HB.out _ (((w.alloc (.cells #[txt l, txt h] 24)).alloc (.cells #[txt m, txt k] 24)).alloc (.cells #[.string ⟨#[]⟩, .string ⟨#[]⟩] 24)) _ (by simp) rfl extA).mono ?_); rintro e w3 ⟨rfl, hE3⟩; have c0 := hE3.cell c0; have c1 := hE3.cell c1; have c2 := hE3.cell c2; have c3 := hE3.cell c3; have b0 := cell_lt c0; have b1 := cell_lt c2; dsimp only at b0 b1)
        have hA : Ext w3 (w3.alloc (.cells #[txt l, txt h] 24)) := extA
        have Y : EncAt w3.heap.size (w3.alloc (.cells #[txt l, txt h] 24)) l h := ⟨by go_simp, by go_simp, by go_simp, by go_simp⟩
        have s3 : w.heap.size + 1 + 1 < w3.heap.size := cell_lt (X.ext hE3).c0
        have E := (hZ.trans hE3).trans hA
        replace X := (X.ext hE3).ext hA
        replace P := (P.ext hE3).ext hA
        replace Q := (Q.ext hE3).ext hA
        obtain ⟨ob, hob⟩ : ∃ ob, ob = w3.heap.size := ⟨_, rfl⟩
        have n0 : w.heap.size ≠ ob := by omega
        have n1 : w.heap.size + 1 ≠ ob := by omega
        have n2 : w.heap.size + 1 + 1 ≠ ob := by omega
        have hwb : w.heap.size ≤ ob := by omega
        rw [← hob] at Y ⊢
        generalize w3.alloc (.cells #[txt l, txt h] 24) = w4 at Y E X P Q ⊢
        clear hA hE3 hZ s3 hob b0 b1 c0 c1 c2 c3
        go_wp2_with (go_at_call 84; have hh := HO1; clear HO1; (refine (hh.out _ E).mono ?_); clear hh; rintro e w5 ⟨rfl, hE⟩; have P5 := Lib.hid ((P).ext hE); have Q5 := Lib.hid ((Q).ext hE); have X5 := Lib.hid ((X).ext hE); have Y5 := Lib.hid ((Y).ext hE); obtain ⟨c0, c1, _, _⟩ := P5.out; obtain ⟨c2, c3, _, _⟩ := Q5.out; obtain ⟨d0, d1, g0, g1⟩ := X5.out; obtain ⟨y0, y1, p0, p1⟩ := Y5.out)
        replace E := E.trans hE
        clear P Q X Y hE c0 c1 c2 c3 d0 d1 g0 g1 y0 y1 p0 p1
        have P := P5.out
        have Q := Q5.out
        have X := X5.out
        have Y := Y5.out
        clear P5 Q5 X5 Y5
        go_wp2_with (go_at_call 84; have hh := HO2; clear HO2; (refine (hh.out _ E).mono ?_); clear hh; rintro e w6 ⟨rfl, hE⟩; have P5 := Lib.hid ((P).ext hE); have Q5 := Lib.hid ((Q).ext hE); have X5 := Lib.hid ((X).ext hE); have Y5 := Lib.hid ((Y).ext hE); obtain ⟨c0, c1, _, _⟩ := P5.out; obtain ⟨c2, c3, _, _⟩ := Q5.out; obtain ⟨d0, d1, g0, g1⟩ := X5.out; obtain ⟨y0, y1, p0, p1⟩ := Y5.out)
        replace E := E.trans hE
        clear P Q X Y hE c0 c1 c2 c3 d0 d1 g0 g1 y0 y1 p0 p1
        have P := P5.out.other (o := 1) (v := txt k) n0
        have Q := Q5.out.other (o := 1) (v := txt k) n1
        have X := X5.out.other (o := 1) (v := txt k) n2
        have Y := Y5.out.set1 k
        replace E := E.set hwb (o := 1) (txt k)
        clear P5 Q5 X5 Y5
        go_wp2_with (go_at_call 84; (refine (HO4.out _ E).mono ?_); rintro e w7 ⟨rfl, hE⟩; have P5 := Lib.hid ((P).ext hE); have Q5 := Lib.hid ((Q).ext hE); have X5 := Lib.hid ((X).ext hE); have Y5 := Lib.hid ((Y).ext hE); obtain ⟨c0, c1, _, _⟩ := P5.out; obtain ⟨c2, c3, _, _⟩ := Q5.out; obtain ⟨d0, d1, g0, g1⟩ := X5.out; obtain ⟨y0, y1, p0, p1⟩ := Y5.out)
        replace E := E.trans hE
        refine bodyPost_ret (v := .tuple #[.agg #[txt l, txt k], .bool true, .int .i64 0]) (by rw [results_cell_tmp_tmp rfl]; go_simp) rfl ?_
        exact ⟨by first | (rw [HRX.out]; done) | (rw [HRX.out]; rfl), extA⟩
    · have HRX : Hid (C = if 0 < ordQ l h then (([], []), false, 0) else ((l, h), true, 0)) := HR1.out l h (by rw [if_neg h1]) (by rw [if_neg h2])
      have HO4 := Lib.hid (HO3.out l h (.inl rfl) (.inl rfl))
      clear HR1 HR HO3
      generalize ordQ l h = z3 at HRX HO4
      by_cases h3 : 0 < z3
      · rw [if_pos h3] at HRX
        have c0 : ((((w.alloc (.cells #[txt l, txt h] 24)).alloc (.cells #[txt m, txt k] 24)).alloc (.cells #[.string ⟨#[]⟩, .string ⟨#[]⟩] 24)).alloc (.cells #[txt l, txt h, txt m, txt k] 24)).cell? ⟨w.heap.size, 0, none⟩ = some (txt l) := by go_simp
        have c1 : ((((w.alloc (.cells #[txt l, txt h] 24)).alloc (.cells #[txt m, txt k] 24)).alloc (.cells #[.string ⟨#[]⟩, .string ⟨#[]⟩] 24)).alloc (.cells #[txt l, txt h, txt m, txt k] 24)).cell? ⟨w.heap.size, 1, none⟩ = some (txt h) := by go_simp
        have c2 : ((((w.alloc (.cells #[txt l, txt h] 24)).alloc (.cells #[txt m, txt k] 24)).alloc (.cells #[.string ⟨#[]⟩, .string ⟨#[]⟩] 24)).alloc (.cells #[txt l, txt h, txt m, txt k] 24)).cell? ⟨w.heap.size + 1, 0, none⟩ = some (txt m) := by go_simp
        have c3 : ((((w.alloc (.cells #[txt l, txt h] 24)).alloc (.cells #[txt m, txt k] 24)).alloc (.cells #[.string ⟨#[]⟩, .string ⟨#[]⟩] 24)).alloc (.cells #[txt l, txt h, txt m, txt k] 24)).cell? ⟨w.heap.size + 1, 1, none⟩ = some (txt k) := by go_simp
        have X : EncAt (w.heap.size + 1 + 1) ((((w.alloc (.cells #[txt l, txt h] 24)).alloc (.cells #[txt m, txt k] 24)).alloc (.cells #[.string ⟨#[]⟩, .string ⟨#[]⟩] 24)).alloc (.cells #[txt l, txt h, txt m, txt k] 24)) [] [] := ⟨by go_simp, by go_simp, by go_simp, by go_simp⟩
        have hZ : Ext w ((((w.alloc (.cells #[txt l, txt h] 24)).alloc (.cells #[txt m, txt k] 24)).alloc (.cells #[.string ⟨#[]⟩, .string ⟨#[]⟩] 24)).alloc (.cells #[txt l, txt h, txt m, txt k] 24)) := extA
        have P : EncAt w.heap.size ((((w.alloc (.cells #[txt l, txt h] 24)).alloc (.cells #[txt m, txt k] 24)).alloc (.cells #[.string ⟨#[]⟩, .string ⟨#[]⟩] 24)).alloc (.cells #[txt l, txt h, txt m, txt k] 24)) l h := ⟨c0, c1, by go_simp, by go_simp⟩
        have Q : EncAt (w.heap.size + 1) ((((w.alloc (.cells #[txt l, txt h] 24)).alloc (.cells #[txt m, txt k] 24)).alloc (.cells #[.string ⟨#[]⟩, .string ⟨#[]⟩] 24)).alloc (.cells #[txt l, txt h, txt m, txt k] 24)) m k := ⟨c2, c3, by go_simp, by go_simp⟩
        go_enter Tryz.func28, Tryz.ntmps28
        go_wp2_with (go_at_call 79; (refine (HB.out _ (((w.alloc (.cells #[txt l, txt h] 24)).alloc (.cells #[txt m, txt k] 24)).alloc (.cells #[.string ⟨#[]⟩, .string ⟨#[]⟩] 24)) _ (by simp) rfl extA).mono ?_); rintro e w3 ⟨rfl, hE3⟩; have c0 := hE3.cell c0; have c1 := hE3.cell c1; have c2 := hE3.cell c2; have c3 := hE3.cell c3; have b0 := cell_lt c0; have b1 := cell_lt c2; dsimp only at b0 b1)
        have hA : Ext w3 (w3.alloc (.cells #[txt l, txt h] 24)) := extA
        have Y : EncAt w3.heap.size (w3.alloc (.cells #[txt l, txt h] 24)) l h := ⟨by go_simp, by go_simp, by go_simp, by go_simp⟩
        have s3 : w.heap.size + 1 + 1 < w3.heap.size := cell_lt (X.ext hE3).c0
        have E := (hZ.trans hE3).trans hA
        replace X := (X.ext hE3).ext hA
        replace P := (P.ext hE3).ext hA
        replace Q := (Q.ext hE3).ext hA
        obtain ⟨ob, hob⟩ : ∃ ob, ob = w3.heap.size := ⟨_, rfl⟩
        have n0 : w.heap.size ≠ ob := by omega
        have n1 : w.heap.size + 1 ≠ ob := by omega
        have n2 : w.heap.size + 1 + 1 ≠ ob := by omega
        have hwb : w.heap.size ≤ ob := by omega
        rw [← hob] at Y ⊢
        generalize w3.alloc (.cells #[txt l, txt h] 24) = w4 at Y E X P Q ⊢
        clear hA hE3 hZ s3 hob b0 b1 c0 c1 c2 c3
        go_wp2_with (go_at_call 84; have hh := HO1; clear HO1; (refine (hh.out _ E).mono ?_); clear hh; rintro e w5 ⟨rfl, hE⟩; have P5 := Lib.hid ((P).ext hE); have Q5 := Lib.hid ((Q).ext hE); have X5 := Lib.hid ((X).ext hE); have Y5 := Lib.hid ((Y).ext hE); obtain ⟨c0, c1, _, _⟩ := P5.out; obtain ⟨c2, c3, _, _⟩ := Q5.out; obtain ⟨d0, d1, g0, g1⟩ := X5.out; obtain ⟨y0, y1, p0, p1⟩ := Y5.out)
        replace E := E.trans hE
        clear P Q X Y hE c0 c1 c2 c3 d0 d1 g0 g1 y0 y1 p0 p1
        have P := P5.out
        have Q := Q5.out
        have X := X5.out
        have Y := Y5.out
        clear P5 Q5 X5 Y5
        go_wp2_with (go_at_call 84; have hh := HO2; clear HO2; (refine (hh.out _ E).mono ?_); clear hh; rintro e w6 ⟨rfl, hE⟩; have P5 := Lib.hid ((P).ext hE); have Q5 := Lib.hid ((Q).ext hE); have X5 := Lib.hid ((X).ext hE); have Y5 := Lib.hid ((Y).ext hE); obtain ⟨c0, c1, _, _⟩ := P5.out; obtain ⟨c2, c3, _, _⟩ := Q5.out; obtain ⟨d0, d1, g0, g1⟩ := X5.out; obtain ⟨y0, y1, p0, p1⟩ := Y5.out)
        replace E := E.trans hE
        clear P Q X Y hE c0 c1 c2 c3 d0 d1 g0 g1 y0 y1 p0 p1
        have P := P5.out
        have Q := Q5.out
        have X := X5.out
        have Y := Y5.out
        clear P5 Q5 X5 Y5
        go_wp2_with (go_at_call 84; (refine (HO4.out _ E).mono ?_); rintro e w7 ⟨rfl, hE⟩; have P5 := Lib.hid ((P).ext hE); have Q5 := Lib.hid ((Q).ext hE); have X5 := Lib.hid ((X).ext hE); have Y5 := Lib.hid ((Y).ext hE); obtain ⟨c0, c1, _, _⟩ := P5.out; obtain ⟨c2, c3, _, _⟩ := Q5.out; obtain ⟨d0, d1, g0, g1⟩ := X5.out; obtain ⟨y0, y1, p0, p1⟩ := Y5.out)
        replace E := E.trans hE
        refine bodyPost_ret (v := .tuple #[.agg #[txt [], txt []], .bool false, .int .i64 0]) (by rw [results_cell_tmp_tmp rfl]; go_simp) rfl ?_
        exact ⟨by first | (rw [HRX.out]; done) | (rw [HRX.out]; rfl), extA⟩
      · rw [if_neg h3] at HRX
        have c0 : ((((w.alloc (.cells #[txt l, txt h] 24)).alloc (.cells #[txt m, txt k] 24)).alloc (.cells #[.string ⟨#[]⟩, .string ⟨#[]⟩] 24)).alloc (.cells #[txt l, txt h, txt m, txt k] 24)).cell? ⟨w.heap.size, 0, none⟩ = some (txt l) := by go_simp
        have c1 : ((((w.alloc (.cells #[txt l, txt h] 24)).alloc (.cells #[txt m, txt k] 24)).alloc (.cells #[.string ⟨#[]⟩, .string ⟨#[]⟩] 24)).alloc (.cells #[txt l, txt h, txt m, txt k] 24)).cell? ⟨w.heap.size, 1, none⟩ = some (txt h) := by go_simp
        have c2 : ((((w.alloc (.cells #[txt l, txt h] 24)).alloc (.cells #[txt m, txt k] 24)).alloc (.cells #[.string ⟨#[]⟩, .string ⟨#[]⟩] 24)).alloc (.cells #[txt l, txt h, txt m, txt k] 24)).cell? ⟨w.heap.size + 1, 0, none⟩ = some (txt m) := by go_simp
        have c3 : ((((w.alloc (.cells #[txt l, txt h] 24)).alloc (.cells #[txt m, txt k] 24)).alloc (.cells #[.string ⟨#[]⟩, .string ⟨#[]⟩] 24)).alloc (.cells #[txt l, txt h, txt m, txt k] 24)).cell? ⟨w.heap.size + 1, 1, none⟩ = some (txt k) := by go_simp
        have X : EncAt (w.heap.size + 1 + 1) ((((w.alloc (.cells #[txt l, txt h] 24)).alloc (.cells #[txt m, txt k] 24)).alloc (.cells #[.string ⟨#[]⟩, .string ⟨#[]⟩] 24)).alloc (.cells #[txt l, txt h, txt m, txt k] 24)) [] [] := ⟨by go_simp, by go_simp, by go_simp, by go_simp⟩
        have hZ : Ext w ((((w.alloc (.cells #[txt l, txt h] 24)).alloc (.cells #[txt m, txt k] 24)).alloc (.cells #[.string ⟨#[]⟩, .string ⟨#[]⟩] 24)).alloc (.cells #[txt l, txt h, txt m, txt k] 24)) := extA
        have P : EncAt w.heap.size ((((w.alloc (.cells #[txt l, txt h] 24)).alloc (.cells #[txt m, txt k] 24)).alloc (.cells #[.string ⟨#[]⟩, .string ⟨#[]⟩] 24)).alloc (.cells #[txt l, txt h, txt m, txt k] 24)) l h := ⟨c0, c1, by go_simp, by go_simp⟩
        have Q : EncAt (w.heap.size + 1) ((((w.alloc (.cells #[txt l, txt h] 24)).alloc (.cells #[txt m, txt k] 24)).alloc (.cells #[.string ⟨#[]⟩, .string ⟨#[]⟩] 24)).alloc (.cells #[txt l, txt h, txt m, txt k] 24)) m k := ⟨c2, c3, by go_simp, by go_simp⟩
        go_enter Tryz.func28, Tryz.ntmps28
        go_wp2_with (go_at_call 79; (refine (HB.out _ (((w.alloc (.cells #[txt l, txt h] 24)).alloc (.cells #[txt m, txt k] 24)).alloc (.cells #[.string ⟨#[]⟩, .string ⟨#[]⟩] 24)) _ (by simp) rfl extA).mono ?_); rintro e w3 ⟨rfl, hE3⟩; have c0 := hE3.cell c0; have c1 := hE3.cell c1; have c2 := hE3.cell c2; have c3 := hE3.cell c3; have b0 := cell_lt c0; have b1 := cell_lt c2; dsimp only at b0 b1)
        have hA : Ext w3 (w3.alloc (.cells #[txt l, txt h] 24)) := extA
        have Y : EncAt w3.heap.size (w3.alloc (.cells #[txt l, txt h] 24)) l h := ⟨by go_simp, by go_simp, by go_simp, by go_simp⟩
        have s3 : w.heap.size + 1 + 1 < w3.heap.size := cell_lt (X.ext hE3).c0
        have E := (hZ.trans hE3).trans hA
        replace X := (X.ext hE3).ext hA
        replace P := (P.ext hE3).ext hA
        replace Q := (Q.ext hE3).ext hA
        obtain ⟨ob, hob⟩ : ∃ ob, ob = w3.heap.size := ⟨_, rfl⟩
        have n0 : w.heap.size ≠ ob := by omega
        have n1 : w.heap.size + 1 ≠ ob := by omega
        have n2 : w.heap.size + 1 + 1 ≠ ob := by omega
        have hwb : w.heap.size ≤ ob := by omega
        rw [← hob] at Y ⊢
        generalize w3.alloc (.cells #[txt l, txt h] 24) = w4 at Y E X P Q ⊢
        clear hA hE3 hZ s3 hob b0 b1 c0 c1 c2 c3
        go_wp2_with (go_at_call 84; have hh := HO1; clear HO1; (refine (hh.out _ E).mono ?_); clear hh; rintro e w5 ⟨rfl, hE⟩; have P5 := Lib.hid ((P).ext hE); have Q5 := Lib.hid ((Q).ext hE); have X5 := Lib.hid ((X).ext hE); have Y5 := Lib.hid ((Y).ext hE); obtain ⟨c0, c1, _, _⟩ := P5.out; obtain ⟨c2, c3, _, _⟩ := Q5.out; obtain ⟨d0, d1, g0, g1⟩ := X5.out; obtain ⟨y0, y1, p0, p1⟩ := Y5.out)
        replace E := E.trans hE
        clear P Q X Y hE c0 c1 c2 c3 d0 d1 g0 g1 y0 y1 p0 p1
        have P := P5.out
        have Q := Q5.out
        have X := X5.out
        have Y := Y5.out
        clear P5 Q5 X5 Y5
        go_wp2_with (go_at_call 84; have hh := HO2; clear HO2; (refine (hh.out _ E).mono ?_); clear hh; rintro e w6 ⟨rfl, hE⟩; have P5 := Lib.hid ((P).ext hE); have Q5 := Lib.hid ((Q).ext hE); have X5 := Lib.hid ((X).ext hE); have Y5 := Lib.hid ((Y).ext hE); obtain ⟨c0, c1, _, _⟩ := P5.out; obtain ⟨c2, c3, _, _⟩ := Q5.out; obtain ⟨d0, d1, g0, g1⟩ := X5.out; obtain ⟨y0, y1, p0, p1⟩ := Y5.out)
        replace E := E.trans hE
        clear P Q X Y hE c0 c1 c2 c3 d0 d1 g0 g1 y0 y1 p0 p1
        have P := P5.out
        have Q := Q5.out
        have X := X5.out
        have Y := Y5.out
        clear P5 Q5 X5 Y5
        go_wp2_with (go_at_call 84; (refine (HO4.out _ E).mono ?_); rintro e w7 ⟨rfl, hE⟩; have P5 := Lib.hid ((P).ext hE); have Q5 := Lib.hid ((Q).ext hE); have X5 := Lib.hid ((X).ext hE); have Y5 := Lib.hid ((Y).ext hE); obtain ⟨c0, c1, _, _⟩ := P5.out; obtain ⟨c2, c3, _, _⟩ := Q5.out; obtain ⟨d0, d1, g0, g1⟩ := X5.out; obtain ⟨y0, y1, p0, p1⟩ := Y5.out)
        replace E := E.trans hE
        refine bodyPost_ret (v := .tuple #[.agg #[txt l, txt h], .bool true, .int .i64 0]) (by rw [results_cell_tmp_tmp rfl]; go_simp) rfl ?_
        exact ⟨by first | (rw [HRX.out]; done) | (rw [HRX.out]; rfl), extA⟩
end Go.Proofs.YtdejgaiocjfhjaaGreatDoor
namespace Go.Proofs.YtdejgaiocjfhjaaGreatDoor
open Go.RowKit
end Go.Proofs.YtdejgaiocjfhjaaGreatDoor
namespace Go.Proofs.YtdejgaiocjfhjaaGreatDoor
open Go.RowKit
set_option maxHeartbeats 2000000 in
theorem eBelow_any (a : Txt) (w : World) : Calls Tryz.prog 112 #[txt a] w fun e w' => e = .returned (.bool (negS a)) ∧ w' = w := by
  have HP : Hid (∀ W, Calls Tryz.prog 145 #[txt a, txt [45]] W fun e w' => e = .returned (.bool (negS a)) ∧ w' = W) := fun W => by
    refine (Tryz.strings_HasPrefix ⟨a.toArray⟩ ⟨#[45]⟩ W).mono fun e w' h => ?_
    obtain ⟨h1, h2⟩ := h
    refine ⟨?_, h2⟩
    have e1 : ((⟨a.toArray⟩ : ByteArray).data.toList) = a := rfl
    have e2 : ((⟨#[45]⟩ : ByteArray).data.toList) = [45] := rfl
    rw [e1, e2, (trimP_bare a).2] at h1
    exact h1
  go_enter Tryz.func112, Tryz.ntmps112
  go_wp2_with (go_at_call 145; (refine (HP.out _).mono ?_); rintro e w' ⟨rfl, rfl⟩)
  go_ret
  exact ⟨rfl, rfl⟩
def zeroE (a : Enc) : Bool := (negS a.1 || a.1 == [48]) && !negS a.2
set_option maxHeartbeats 4000000 in
set_option maxRecDepth 100000 in
theorem eZero_any (a : Enc) (w : World) : Calls Tryz.prog 70 #[encV a] w fun e w' => e = .returned (.bool (zeroE a)) ∧ Ext w w' := by
  obtain ⟨l, h⟩ := a
  have HL := Lib.hid (fun W => eBelow_any l W)
  have HH := Lib.hid (fun W => eBelow_any h W)
  unfold zeroE
  dsimp only [encV]
  obtain ⟨B, hB⟩ : ∃ B, B = (l == [48]) := ⟨_, rfl⟩
  rw [← hB]
  have hlb := hB.symm
  clear hB
  generalize negS l = n1 at *
  generalize negS h = n2 at *
  cases n1 <;> cases n2 <;> cases B
  all_goals
    go_enter Tryz.func70, Tryz.ntmps70
    go_wp2_with (go_at_call 112; have hh := HL; clear HL; (refine (hh.out _).mono ?_); clear hh; rintro e w' ⟨rfl, rfl⟩)
    first
      | (go_wp2_with (go_at_call 112; have hh := HH; clear HH; (refine (hh.out _).mono ?_); clear hh; rintro e w' ⟨rfl, rfl⟩); go_ret; exact ⟨rfl, extA⟩)
      | (go_ret; exact ⟨rfl, extA⟩)
set_option maxHeartbeats 2000000 in
theorem ePi_any (w : World) : Calls Tryz.prog 59 #[] w fun e w' => e = .returned (encV ([50, 50, 51, 47, 55, 49], [50, 50, 47, 55])) ∧ Ext w w' := by
  go_enter Tryz.func59, Tryz.ntmps59
  go_wp2
  refine bodyPost_ret (v := .agg #[txt [50, 50, 51, 47, 55, 49], txt [50, 50, 47, 55]]) (by rw [results_cell1 rfl]; go_simp) rfl ?_
  exact ⟨rfl, extA⟩
end Go.Proofs.YtdejgaiocjfhjaaGreatDoor
namespace Go.Proofs.YtdejgaiocjfhjaaGreatDoor
open Go.RowKit
theorem ends_bad1 {r s : Res} (h : r.2 ≠ 0) : endsR r s = (([], []), r.2) := by unfold endsR badEnc; rw [if_pos h]
theorem ends_bad2 {r s : Res} (h : r.2 = 0) (k : s.2 ≠ 0) : endsR r s = (([], []), s.2) := by unfold endsR badEnc; rw [if_neg (not_not_intro h), if_pos k]
theorem ends_good {r s : Res} (h : r.2 = 0) (k : s.2 = 0) : endsR r s = ((r.1, s.1), 0) := by unfold endsR; rw [if_neg (not_not_intro h), if_neg (not_not_intro k)]
set_option maxHeartbeats 8000000 in
set_option maxRecDepth 100000 in
theorem eEnds_any (f : Nat) (a b c d : Txt) (r s : Res) (w : World) (heg : ∀ args w, (callFunc f args).run Tryz.prog w = .ok (.enter f args) w)
    (h1 : ∀ W, Ext w W → Calls Tryz.prog f #[txt a, txt b] W (ResP r W)) (h2 : ∀ W, Ext w W → Calls Tryz.prog f #[txt c, txt d] W (ResP s W)) :
    Calls Tryz.prog 71 #[.func (.func f) #[] #[], .agg #[txt a, txt b, txt c, txt d]] w (EncP (endsR r s) w) := by
  have H1 := Lib.hid h1
  have H2 := Lib.hid h2
  unfold ResP at H1 H2
  unfold EncP
  clear h1 h2
  have hi0 : ∀ W, (Instr.index 95 (.agg #[txt a, txt b, txt c, txt d]) (.int .i64 0)).run Tryz.prog W = .ok (.agg #[txt a, txt b]) W := fun W => by simp [Instr.index, go_sem]
  have hi1 : ∀ W, (Instr.index 95 (.agg #[txt a, txt b, txt c, txt d]) (.int .i64 1)).run Tryz.prog W = .ok (.agg #[txt c, txt d]) W := fun W => by simp [Instr.index, go_sem]
  obtain ⟨r1, r2⟩ := r
  obtain ⟨s1, s2⟩ := s
  dsimp only at H1 H2
  obtain ⟨C, hC⟩ : ∃ C, C = endsR (r1, r2) (s1, s2) := ⟨_, rfl⟩
  rw [← hC]
  by_cases hr : r2 = 0
  rotate_left
  · have HR : Hid (C = (([], []), r2)) := by show _ = _; rw [hC]; exact ends_bad1 hr
    have hne : ((r2 : Int) != 0) = true := by rw [bne_iff_ne]; omega
    clear hr hC
    have X : EncAt (w.heap.size + 1) ((((w.alloc (.cells #[txt a, txt b, txt c, txt d] 95)).alloc (.cells #[.string ⟨#[]⟩, .string ⟨#[]⟩] 24)).alloc (.cells #[.string ⟨#[]⟩, .string ⟨#[]⟩] 93)).alloc (.cells #[txt a, txt b] 93)) [] [] := ⟨by go_simp, by go_simp, by go_simp, by go_simp⟩
    have O : EncAt (w.heap.size + 1 + 1) ((((w.alloc (.cells #[txt a, txt b, txt c, txt d] 95)).alloc (.cells #[.string ⟨#[]⟩, .string ⟨#[]⟩] 24)).alloc (.cells #[.string ⟨#[]⟩, .string ⟨#[]⟩] 93)).alloc (.cells #[txt a, txt b] 93)) [] [] := ⟨by go_simp, by go_simp, by go_simp, by go_simp⟩
    have EV : Ext w ((((w.alloc (.cells #[txt a, txt b, txt c, txt d] 95)).alloc (.cells #[.string ⟨#[]⟩, .string ⟨#[]⟩] 24)).alloc (.cells #[.string ⟨#[]⟩, .string ⟨#[]⟩] 93)).alloc (.cells #[txt a, txt b] 93)) := extA
    go_enter Tryz.func71, Tryz.ntmps71
    go_wp2
    refine wp_loop_rounds 3 ?_
    rw [rounds_succ]
    go_wp2_with fail
    generalize ((((w.alloc (.cells #[txt a, txt b, txt c, txt d] 95)).alloc (.cells #[.string ⟨#[]⟩, .string ⟨#[]⟩] 24)).alloc (.cells #[.string ⟨#[]⟩, .string ⟨#[]⟩] 93)).alloc (.cells #[txt a, txt b] 93)) = w4 at X O EV ⊢
    refine (H1.out _ EV).mono ?_
    rintro e w5 ⟨rfl, hE⟩
    have X5 := X.ext hE
    have O5 := O.ext hE
    have E := EV.trans hE
    clear X O EV hE
    obtain ⟨d0, d1, g0, g1⟩ := X5
    obtain ⟨y0, y1, p0, p1⟩ := O5
    go_wp2_with fail
    refine bodyPost_ret (v := .tuple #[.agg #[txt [], txt []], .int .i64 (r2 : Nat)]) (by rw [results_cell_tmp1 rfl]; go_simp) rfl ?_
    exact ⟨by first | (rw [HR.out]; done) | (rw [HR.out]; rfl), extA⟩
  subst hr
  have hne0 : (((0 : Nat) : Int) != 0) = false := rfl
  by_cases hs : s2 = 0
  rotate_left
  · have HR : Hid (C = (([], []), s2)) := by show _ = _; rw [hC]; exact ends_bad2 rfl hs
    have hne : ((s2 : Int) != 0) = true := by rw [bne_iff_ne]; omega
    clear hs hC
    have X : EncAt (w.heap.size + 1) ((((w.alloc (.cells #[txt a, txt b, txt c, txt d] 95)).alloc (.cells #[.string ⟨#[]⟩, .string ⟨#[]⟩] 24)).alloc (.cells #[.string ⟨#[]⟩, .string ⟨#[]⟩] 93)).alloc (.cells #[txt a, txt b] 93)) [] [] := ⟨by go_simp, by go_simp, by go_simp, by go_simp⟩
    have O : EncAt (w.heap.size + 1 + 1) ((((w.alloc (.cells #[txt a, txt b, txt c, txt d] 95)).alloc (.cells #[.string ⟨#[]⟩, .string ⟨#[]⟩] 24)).alloc (.cells #[.string ⟨#[]⟩, .string ⟨#[]⟩] 93)).alloc (.cells #[txt a, txt b] 93)) [] [] := ⟨by go_simp, by go_simp, by go_simp, by go_simp⟩
    have EV : Ext w ((((w.alloc (.cells #[txt a, txt b, txt c, txt d] 95)).alloc (.cells #[.string ⟨#[]⟩, .string ⟨#[]⟩] 24)).alloc (.cells #[.string ⟨#[]⟩, .string ⟨#[]⟩] 93)).alloc (.cells #[txt a, txt b] 93)) := extA
    go_enter Tryz.func71, Tryz.ntmps71
    go_wp2
    refine wp_loop_rounds 3 ?_
    rw [rounds_succ]
    go_wp2_with fail
    generalize ((((w.alloc (.cells #[txt a, txt b, txt c, txt d] 95)).alloc (.cells #[.string ⟨#[]⟩, .string ⟨#[]⟩] 24)).alloc (.cells #[.string ⟨#[]⟩, .string ⟨#[]⟩] 93)).alloc (.cells #[txt a, txt b] 93)) = w4 at X O EV ⊢
    refine (H1.out _ EV).mono ?_
    rintro e w5 ⟨rfl, hE⟩
    have X5 := X.ext hE
    have O5 := O.ext hE
    have E := EV.trans hE
    clear X O EV hE
    obtain ⟨d0, d1, g0, g1⟩ := X5
    obtain ⟨y0, y1, p0, p1⟩ := O5
    have x0 := d0
    have x1 := d1
    have x2 := g0
    have x3 := g1
    have z0 := y0
    have z1 := y1
    have z2 := p0
    have z3 := p1
    go_wp2_with fail
    rw [rounds_succ]
    go_wp2_with fail
    clear d0 d1 g0 g1 y0 y1 p0 p1
    have X6 := (EncAt.mk x0 x1 x2 x3).other (c := w.heap.size + 1 + 1) (o := 0) (v := txt r1) (by omega)
    have O6 := (EncAt.mk z0 z1 z2 z3).set0 r1
    have E6 : Ext w (w5.setCell ⟨w.heap.size + 1 + 1, 0, none⟩ (txt r1)) := E.set (by omega) _
    have hA : Ext (w5.setCell ⟨w.heap.size + 1 + 1, 0, none⟩ (txt r1)) ((w5.setCell ⟨w.heap.size + 1 + 1, 0, none⟩ (txt r1)).alloc (.cells #[txt c, txt d] 93)) := extA
    have X7 := X6.ext hA
    have O7 := O6.ext hA
    have E7 := E6.trans hA
    generalize ((w5.setCell ⟨w.heap.size + 1 + 1, 0, none⟩ (txt r1)).alloc (.cells #[txt c, txt d] 93)) = w6 at X7 O7 E7 ⊢
    clear hA X6 O6 E6 E
    refine (H2.out _ E7).mono ?_
    rintro e w7 ⟨rfl, hE⟩
    have E := E7.trans hE
    obtain ⟨d0, d1, g0, g1⟩ := X7.ext hE
    obtain ⟨y0, y1, p0, p1⟩ := O7.ext hE
    clear X7 O7 E7 hE
    go_wp2_with fail
    refine bodyPost_ret (v := .tuple #[.agg #[txt [], txt []], .int .i64 (s2 : Nat)]) (by rw [results_cell_tmp1 rfl]; go_simp) rfl ?_
    exact ⟨by first | (rw [HR.out]; done) | (rw [HR.out]; rfl), extA⟩
  subst hs
  have HR : Hid (C = ((r1, s1), 0)) := by show _ = _; rw [hC]; exact ends_good rfl rfl
  clear hC
  have X : EncAt (w.heap.size + 1) ((((w.alloc (.cells #[txt a, txt b, txt c, txt d] 95)).alloc (.cells #[.string ⟨#[]⟩, .string ⟨#[]⟩] 24)).alloc (.cells #[.string ⟨#[]⟩, .string ⟨#[]⟩] 93)).alloc (.cells #[txt a, txt b] 93)) [] [] := ⟨by go_simp, by go_simp, by go_simp, by go_simp⟩
  have O : EncAt (w.heap.size + 1 + 1) ((((w.alloc (.cells #[txt a, txt b, txt c, txt d] 95)).alloc (.cells #[.string ⟨#[]⟩, .string ⟨#[]⟩] 24)).alloc (.cells #[.string ⟨#[]⟩, .string ⟨#[]⟩] 93)).alloc (.cells #[txt a, txt b] 93)) [] [] := ⟨by go_simp, by go_simp, by go_simp, by go_simp⟩
  have EV : Ext w ((((w.alloc (.cells #[txt a, txt b, txt c, txt d] 95)).alloc (.cells #[.string ⟨#[]⟩, .string ⟨#[]⟩] 24)).alloc (.cells #[.string ⟨#[]⟩, .string ⟨#[]⟩] 93)).alloc (.cells #[txt a, txt b] 93)) := extA
  go_enter Tryz.func71, Tryz.ntmps71
  go_wp2
  refine wp_loop_rounds 3 ?_
  rw [rounds_succ]
  go_wp2_with fail
  generalize ((((w.alloc (.cells #[txt a, txt b, txt c, txt d] 95)).alloc (.cells #[.string ⟨#[]⟩, .string ⟨#[]⟩] 24)).alloc (.cells #[.string ⟨#[]⟩, .string ⟨#[]⟩] 93)).alloc (.cells #[txt a, txt b] 93)) = w4 at X O EV ⊢
  refine (H1.out _ EV).mono ?_
  rintro e w5 ⟨rfl, hE⟩
  have X5 := X.ext hE
  have O5 := O.ext hE
  have E := EV.trans hE
  clear X O EV hE
  obtain ⟨d0, d1, g0, g1⟩ := X5
  obtain ⟨y0, y1, p0, p1⟩ := O5
  have x0 := d0
  have x1 := d1
  have x2 := g0
  have x3 := g1
  have z0 := y0
  have z1 := y1
  have z2 := p0
  have z3 := p1
  go_wp2_with fail
  rw [rounds_succ]
  go_wp2_with fail
  clear d0 d1 g0 g1 y0 y1 p0 p1
  have X6 := (EncAt.mk x0 x1 x2 x3).other (c := w.heap.size + 1 + 1) (o := 0) (v := txt r1) (by omega)
  have O6 := (EncAt.mk z0 z1 z2 z3).set0 r1
  have E6 : Ext w (w5.setCell ⟨w.heap.size + 1 + 1, 0, none⟩ (txt r1)) := E.set (by omega) _
  have hA : Ext (w5.setCell ⟨w.heap.size + 1 + 1, 0, none⟩ (txt r1)) ((w5.setCell ⟨w.heap.size + 1 + 1, 0, none⟩ (txt r1)).alloc (.cells #[txt c, txt d] 93)) := extA
  have X7 := X6.ext hA
  have O7 := O6.ext hA
  have E7 := E6.trans hA
  generalize ((w5.setCell ⟨w.heap.size + 1 + 1, 0, none⟩ (txt r1)).alloc (.cells #[txt c, txt d] 93)) = w6 at X7 O7 E7 ⊢
  clear hA X6 O6 E6 E
  refine (H2.out _ E7).mono ?_
  rintro e w7 ⟨rfl, hE⟩
  have E := E7.trans hE
  obtain ⟨d0, d1, g0, g1⟩ := X7.ext hE
  obtain ⟨y0, y1, p0, p1⟩ := O7.ext hE
  clear X7 O7 E7 hE
  go_wp2_with fail
  rw [rounds_succ]
  go_wp2_with fail
  refine bodyPost_ret (v := .tuple #[.agg #[txt r1, txt s1], .int .i64 0]) (by rw [results_cell_tmp1 rfl]; go_simp) rfl ?_
  exact ⟨by first | (rw [HR.out]; done) | (rw [HR.out]; rfl), extA⟩
end Go.Proofs.YtdejgaiocjfhjaaGreatDoor
namespace Go.Proofs.YtdejgaiocjfhjaaGreatDoor
open Go.RowKit
theorem enters47 : ∀ args w, (callFunc 47 args).run Tryz.prog w = .ok (.enter 47 args) w := enters_of Tryz.func47 (by kernel_rfl) rfl
theorem enters48 : ∀ args w, (callFunc 48 args).run Tryz.prog w = .ok (.enter 48 args) w := enters_of Tryz.func48 (by kernel_rfl) rfl
theorem enters49 : ∀ args w, (callFunc 49 args).run Tryz.prog w = .ok (.enter 49 args) w := enters_of Tryz.func49 (by kernel_rfl) rfl
theorem enters50 : ∀ args w, (callFunc 50 args).run Tryz.prog w = .ok (.enter 50 args) w := enters_of Tryz.func50 (by kernel_rfl) rfl
set_option maxHeartbeats 8000000 in
set_option maxRecDepth 100000 in
theorem eAdd_any (a b : Enc) (w : World) (hG : Glob w) (hl : LenE a) (hm : LenE b) : Calls Tryz.prog 20 #[encV a, encV b] w (EncP (addE a b) w) := by
  have HB := Lib.hid (checked_two a b w hG hl hm)
  have HE := Lib.hid (fun W (h : Ext w W) => eEnds_any 47 a.1 b.1 a.2 b.2 (addS a.1 b.1) (addS a.2 b.2) W enters47
    (fun V g => add_any _ _ V (hG.ext (h.trans g)) hl.1 hm.1) (fun V g => add_any _ _ V (hG.ext (h.trans g)) hl.2 hm.2))
  unfold EncP at HE ⊢
  obtain ⟨C, hC⟩ : ∃ C, C = addE a b := ⟨_, rfl⟩
  rw [← hC]
  have hne0 : (((0 : Nat) : Int) != 0) = false := rfl
  by_cases e0 : bothEE a b = 0
  rotate_left
  · have HR : Hid (C = (([], []), bothEE a b)) := by show _ = _; rw [hC]; unfold addE badEnc; rw [if_pos e0]
    have hne : (((bothEE a b : Nat) : Int) != 0) = true := by rw [bne_iff_ne]; omega
    clear e0 hC hl hm hG HE
    generalize bothEE a b = n at *
    obtain ⟨l, h⟩ := a
    obtain ⟨m, k⟩ := b
    dsimp only [encV] at HB ⊢
    have c0 : ((((w.alloc (.cells #[txt l, txt h] 24)).alloc (.cells #[txt m, txt k] 24)).alloc (.cells #[.string ⟨#[]⟩, .string ⟨#[]⟩] 24)).alloc (.cells #[txt l, txt h, txt m, txt k] 24)).cell? ⟨w.heap.size, 0, none⟩ = some (txt l) := by go_simp
    have c1 : ((((w.alloc (.cells #[txt l, txt h] 24)).alloc (.cells #[txt m, txt k] 24)).alloc (.cells #[.string ⟨#[]⟩, .string ⟨#[]⟩] 24)).alloc (.cells #[txt l, txt h, txt m, txt k] 24)).cell? ⟨w.heap.size, 1, none⟩ = some (txt h) := by go_simp
    have c2 : ((((w.alloc (.cells #[txt l, txt h] 24)).alloc (.cells #[txt m, txt k] 24)).alloc (.cells #[.string ⟨#[]⟩, .string ⟨#[]⟩] 24)).alloc (.cells #[txt l, txt h, txt m, txt k] 24)).cell? ⟨w.heap.size + 1, 0, none⟩ = some (txt m) := by go_simp
    have c3 : ((((w.alloc (.cells #[txt l, txt h] 24)).alloc (.cells #[txt m, txt k] 24)).alloc (.cells #[.string ⟨#[]⟩, .string ⟨#[]⟩] 24)).alloc (.cells #[txt l, txt h, txt m, txt k] 24)).cell? ⟨w.heap.size + 1, 1, none⟩ = some (txt k) := by go_simp
    have X : EncAt (w.heap.size + 1 + 1) ((((w.alloc (.cells #[txt l, txt h] 24)).alloc (.cells #[txt m, txt k] 24)).alloc (.cells #[.string ⟨#[]⟩, .string ⟨#[]⟩] 24)).alloc (.cells #[txt l, txt h, txt m, txt k] 24)) [] [] := ⟨by go_simp, by go_simp, by go_simp, by go_simp⟩
    have hZ : Ext w ((((w.alloc (.cells #[txt l, txt h] 24)).alloc (.cells #[txt m, txt k] 24)).alloc (.cells #[.string ⟨#[]⟩, .string ⟨#[]⟩] 24)).alloc (.cells #[txt l, txt h, txt m, txt k] 24)) := extA
    go_enter Tryz.func20, Tryz.ntmps20
    go_wp2_with (go_at_call 79; (refine (HB.out _ (((w.alloc (.cells #[txt l, txt h] 24)).alloc (.cells #[txt m, txt k] 24)).alloc (.cells #[.string ⟨#[]⟩, .string ⟨#[]⟩] 24)) _ (by simp) rfl extA).mono ?_); rintro e w3 ⟨rfl, hE3⟩; have c0 := hE3.cell c0; have c1 := hE3.cell c1; have c2 := hE3.cell c2; have c3 := hE3.cell c3; have b0 := cell_lt c0; have b1 := cell_lt c2; dsimp only at b0 b1; obtain ⟨d0, d1, g0, g1⟩ := X.ext hE3)
    refine bodyPost_ret (v := .tuple #[.agg #[txt [], txt []], .int .i64 (n : Nat)]) (by rw [results_cell_tmp1 rfl]; go_simp) rfl ?_
    exact ⟨by first | (rw [HR.out]; done) | (rw [HR.out]; rfl), extA⟩
  have HR : Hid (C = endsR (addS a.1 b.1) (addS a.2 b.2)) := by show _ = _; rw [hC]; unfold addE; rw [if_neg (not_not_intro e0)]
  rw [e0] at HB
  clear e0 hl hm hG hC
  generalize endsR (addS a.1 b.1) (addS a.2 b.2) = R at *
  obtain ⟨⟨r1, r2⟩, r3⟩ := R
  obtain ⟨l, h⟩ := a
  obtain ⟨m, k⟩ := b
  dsimp only [encV] at HB HE HR ⊢
  have c0 : ((((w.alloc (.cells #[txt l, txt h] 24)).alloc (.cells #[txt m, txt k] 24)).alloc (.cells #[.string ⟨#[]⟩, .string ⟨#[]⟩] 24)).alloc (.cells #[txt l, txt h, txt m, txt k] 24)).cell? ⟨w.heap.size, 0, none⟩ = some (txt l) := by go_simp
  have c1 : ((((w.alloc (.cells #[txt l, txt h] 24)).alloc (.cells #[txt m, txt k] 24)).alloc (.cells #[.string ⟨#[]⟩, .string ⟨#[]⟩] 24)).alloc (.cells #[txt l, txt h, txt m, txt k] 24)).cell? ⟨w.heap.size, 1, none⟩ = some (txt h) := by go_simp
  have c2 : ((((w.alloc (.cells #[txt l, txt h] 24)).alloc (.cells #[txt m, txt k] 24)).alloc (.cells #[.string ⟨#[]⟩, .string ⟨#[]⟩] 24)).alloc (.cells #[txt l, txt h, txt m, txt k] 24)).cell? ⟨w.heap.size + 1, 0, none⟩ = some (txt m) := by go_simp
  have c3 : ((((w.alloc (.cells #[txt l, txt h] 24)).alloc (.cells #[txt m, txt k] 24)).alloc (.cells #[.string ⟨#[]⟩, .string ⟨#[]⟩] 24)).alloc (.cells #[txt l, txt h, txt m, txt k] 24)).cell? ⟨w.heap.size + 1, 1, none⟩ = some (txt k) := by go_simp
  have X : EncAt (w.heap.size + 1 + 1) ((((w.alloc (.cells #[txt l, txt h] 24)).alloc (.cells #[txt m, txt k] 24)).alloc (.cells #[.string ⟨#[]⟩, .string ⟨#[]⟩] 24)).alloc (.cells #[txt l, txt h, txt m, txt k] 24)) [] [] := ⟨by go_simp, by go_simp, by go_simp, by go_simp⟩
  have hZ : Ext w ((((w.alloc (.cells #[txt l, txt h] 24)).alloc (.cells #[txt m, txt k] 24)).alloc (.cells #[.string ⟨#[]⟩, .string ⟨#[]⟩] 24)).alloc (.cells #[txt l, txt h, txt m, txt k] 24)) := extA
  go_enter Tryz.func20, Tryz.ntmps20
  go_wp2_with (go_at_call 79; (refine (HB.out _ (((w.alloc (.cells #[txt l, txt h] 24)).alloc (.cells #[txt m, txt k] 24)).alloc (.cells #[.string ⟨#[]⟩, .string ⟨#[]⟩] 24)) _ (by simp) rfl extA).mono ?_); rintro e w3 ⟨rfl, hE3⟩; have c0 := hE3.cell c0; have c1 := hE3.cell c1; have c2 := hE3.cell c2; have c3 := hE3.cell c3; have b0 := cell_lt c0; have b1 := cell_lt c2; dsimp only at b0 b1; obtain ⟨d0, d1, g0, g1⟩ := X.ext hE3; have E3 := hZ.trans hE3; have X3 := X.ext hE3)
  go_at_call 71
  refine (HE.out _ E3).mono ?_
  rintro e w4 ⟨rfl, hE4⟩
  obtain ⟨d0, d1, g0, g1⟩ := X3.ext hE4
  go_wp2_with fail
  refine bodyPost_ret (v := .tuple #[.agg #[txt r1, txt r2], .int .i64 (r3 : Nat)]) (by rw [results_cell_tmp1 rfl]; go_simp) rfl ?_
  exact ⟨by first | (rw [HR.out]; done) | (rw [HR.out]; rfl), extA⟩
set_option maxHeartbeats 8000000 in
set_option maxRecDepth 100000 in
theorem eSub_any (a b : Enc) (w : World) (hG : Glob w) (hl : LenE a) (hm : LenE b) : Calls Tryz.prog 22 #[encV a, encV b] w (EncP (subE a b) w) := by
  have HB := Lib.hid (checked_two a b w hG hl hm)
  have HE := Lib.hid (fun W (h : Ext w W) => eEnds_any 48 a.1 b.2 a.2 b.1 (subS a.1 b.2) (subS a.2 b.1) W enters48
    (fun V g => sub_any _ _ V (hG.ext (h.trans g)) hl.1 hm.2) (fun V g => sub_any _ _ V (hG.ext (h.trans g)) hl.2 hm.1))
  unfold EncP at HE ⊢
  obtain ⟨C, hC⟩ : ∃ C, C = subE a b := ⟨_, rfl⟩
  rw [← hC]
  have hne0 : (((0 : Nat) : Int) != 0) = false := rfl
  by_cases e0 : bothEE a b = 0
  rotate_left
  · have HR : Hid (C = (([], []), bothEE a b)) := by show _ = _; rw [hC]; unfold subE badEnc; rw [if_pos e0]
    have hne : (((bothEE a b : Nat) : Int) != 0) = true := by rw [bne_iff_ne]; omega
    clear e0 hC hl hm hG HE
    generalize bothEE a b = n at *
    obtain ⟨l, h⟩ := a
    obtain ⟨m, k⟩ := b
    dsimp only [encV] at HB ⊢
    have c0 : ((((w.alloc (.cells #[txt l, txt h] 24)).alloc (.cells #[txt m, txt k] 24)).alloc (.cells #[.string ⟨#[]⟩, .string ⟨#[]⟩] 24)).alloc (.cells #[txt l, txt h, txt m, txt k] 24)).cell? ⟨w.heap.size, 0, none⟩ = some (txt l) := by go_simp
    have c1 : ((((w.alloc (.cells #[txt l, txt h] 24)).alloc (.cells #[txt m, txt k] 24)).alloc (.cells #[.string ⟨#[]⟩, .string ⟨#[]⟩] 24)).alloc (.cells #[txt l, txt h, txt m, txt k] 24)).cell? ⟨w.heap.size, 1, none⟩ = some (txt h) := by go_simp
    have c2 : ((((w.alloc (.cells #[txt l, txt h] 24)).alloc (.cells #[txt m, txt k] 24)).alloc (.cells #[.string ⟨#[]⟩, .string ⟨#[]⟩] 24)).alloc (.cells #[txt l, txt h, txt m, txt k] 24)).cell? ⟨w.heap.size + 1, 0, none⟩ = some (txt m) := by go_simp
    have c3 : ((((w.alloc (.cells #[txt l, txt h] 24)).alloc (.cells #[txt m, txt k] 24)).alloc (.cells #[.string ⟨#[]⟩, .string ⟨#[]⟩] 24)).alloc (.cells #[txt l, txt h, txt m, txt k] 24)).cell? ⟨w.heap.size + 1, 1, none⟩ = some (txt k) := by go_simp
    have X : EncAt (w.heap.size + 1 + 1) ((((w.alloc (.cells #[txt l, txt h] 24)).alloc (.cells #[txt m, txt k] 24)).alloc (.cells #[.string ⟨#[]⟩, .string ⟨#[]⟩] 24)).alloc (.cells #[txt l, txt h, txt m, txt k] 24)) [] [] := ⟨by go_simp, by go_simp, by go_simp, by go_simp⟩
    have hZ : Ext w ((((w.alloc (.cells #[txt l, txt h] 24)).alloc (.cells #[txt m, txt k] 24)).alloc (.cells #[.string ⟨#[]⟩, .string ⟨#[]⟩] 24)).alloc (.cells #[txt l, txt h, txt m, txt k] 24)) := extA
    go_enter Tryz.func22, Tryz.ntmps22
    go_wp2_with (go_at_call 79; (refine (HB.out _ (((w.alloc (.cells #[txt l, txt h] 24)).alloc (.cells #[txt m, txt k] 24)).alloc (.cells #[.string ⟨#[]⟩, .string ⟨#[]⟩] 24)) _ (by simp) rfl extA).mono ?_); rintro e w3 ⟨rfl, hE3⟩; have c0 := hE3.cell c0; have c1 := hE3.cell c1; have c2 := hE3.cell c2; have c3 := hE3.cell c3; have b0 := cell_lt c0; have b1 := cell_lt c2; dsimp only at b0 b1; obtain ⟨d0, d1, g0, g1⟩ := X.ext hE3)
    refine bodyPost_ret (v := .tuple #[.agg #[txt [], txt []], .int .i64 (n : Nat)]) (by rw [results_cell_tmp1 rfl]; go_simp) rfl ?_
    exact ⟨by first | (rw [HR.out]; done) | (rw [HR.out]; rfl), extA⟩
  have HR : Hid (C = endsR (subS a.1 b.2) (subS a.2 b.1)) := by show _ = _; rw [hC]; unfold subE; rw [if_neg (not_not_intro e0)]
  rw [e0] at HB
  clear e0 hl hm hG hC
  generalize endsR (subS a.1 b.2) (subS a.2 b.1) = R at *
  obtain ⟨⟨r1, r2⟩, r3⟩ := R
  obtain ⟨l, h⟩ := a
  obtain ⟨m, k⟩ := b
  dsimp only [encV] at HB HE HR ⊢
  have c0 : ((((w.alloc (.cells #[txt l, txt h] 24)).alloc (.cells #[txt m, txt k] 24)).alloc (.cells #[.string ⟨#[]⟩, .string ⟨#[]⟩] 24)).alloc (.cells #[txt l, txt h, txt m, txt k] 24)).cell? ⟨w.heap.size, 0, none⟩ = some (txt l) := by go_simp
  have c1 : ((((w.alloc (.cells #[txt l, txt h] 24)).alloc (.cells #[txt m, txt k] 24)).alloc (.cells #[.string ⟨#[]⟩, .string ⟨#[]⟩] 24)).alloc (.cells #[txt l, txt h, txt m, txt k] 24)).cell? ⟨w.heap.size, 1, none⟩ = some (txt h) := by go_simp
  have c2 : ((((w.alloc (.cells #[txt l, txt h] 24)).alloc (.cells #[txt m, txt k] 24)).alloc (.cells #[.string ⟨#[]⟩, .string ⟨#[]⟩] 24)).alloc (.cells #[txt l, txt h, txt m, txt k] 24)).cell? ⟨w.heap.size + 1, 0, none⟩ = some (txt m) := by go_simp
  have c3 : ((((w.alloc (.cells #[txt l, txt h] 24)).alloc (.cells #[txt m, txt k] 24)).alloc (.cells #[.string ⟨#[]⟩, .string ⟨#[]⟩] 24)).alloc (.cells #[txt l, txt h, txt m, txt k] 24)).cell? ⟨w.heap.size + 1, 1, none⟩ = some (txt k) := by go_simp
  have X : EncAt (w.heap.size + 1 + 1) ((((w.alloc (.cells #[txt l, txt h] 24)).alloc (.cells #[txt m, txt k] 24)).alloc (.cells #[.string ⟨#[]⟩, .string ⟨#[]⟩] 24)).alloc (.cells #[txt l, txt h, txt m, txt k] 24)) [] [] := ⟨by go_simp, by go_simp, by go_simp, by go_simp⟩
  have hZ : Ext w ((((w.alloc (.cells #[txt l, txt h] 24)).alloc (.cells #[txt m, txt k] 24)).alloc (.cells #[.string ⟨#[]⟩, .string ⟨#[]⟩] 24)).alloc (.cells #[txt l, txt h, txt m, txt k] 24)) := extA
  go_enter Tryz.func22, Tryz.ntmps22
  go_wp2_with (go_at_call 79; (refine (HB.out _ (((w.alloc (.cells #[txt l, txt h] 24)).alloc (.cells #[txt m, txt k] 24)).alloc (.cells #[.string ⟨#[]⟩, .string ⟨#[]⟩] 24)) _ (by simp) rfl extA).mono ?_); rintro e w3 ⟨rfl, hE3⟩; have c0 := hE3.cell c0; have c1 := hE3.cell c1; have c2 := hE3.cell c2; have c3 := hE3.cell c3; have b0 := cell_lt c0; have b1 := cell_lt c2; dsimp only at b0 b1; obtain ⟨d0, d1, g0, g1⟩ := X.ext hE3; have E3 := hZ.trans hE3; have X3 := X.ext hE3)
  go_at_call 71
  refine (HE.out _ E3).mono ?_
  rintro e w4 ⟨rfl, hE4⟩
  obtain ⟨d0, d1, g0, g1⟩ := X3.ext hE4
  go_wp2_with fail
  refine bodyPost_ret (v := .tuple #[.agg #[txt r1, txt r2], .int .i64 (r3 : Nat)]) (by rw [results_cell_tmp1 rfl]; go_simp) rfl ?_
  exact ⟨by first | (rw [HR.out]; done) | (rw [HR.out]; rfl), extA⟩
end Go.Proofs.YtdejgaiocjfhjaaGreatDoor
namespace Go.Proofs.YtdejgaiocjfhjaaGreatDoor
open Go.RowKit
theorem EncAt.below {b n : Nat} {A B : World} {l h : Txt} (x : EncAt b A l h) (e : Below n A B) (hb : b < n) : EncAt b B l h :=
  ⟨cellB e (p := ⟨b, 0, none⟩) hb x.c0, cellB e (p := ⟨b, 1, none⟩) hb x.c1, (Below.frozen (p := ⟨b, 0, none⟩) e hb).trans x.f0, (Below.frozen (p := ⟨b, 1, none⟩) e hb).trans x.f1⟩
def E2 (r s : Res) : Nat := if (if (0 : Nat) = 0 then r.2 else 0) = 0 then s.2 else if (0 : Nat) = 0 then r.2 else 0
end Go.Proofs.YtdejgaiocjfhjaaGreatDoor
namespace Go.Proofs.YtdejgaiocjfhjaaGreatDoor
open Go.Lib (decDigits)
def pairAt (a b : Enc) (n : Nat) : Enc := ([a.1, a.2].getD (n / 2) [], [b.1, b.2].getD (n % 2) [])
def bestS (g : Bool) (a b : Enc) : Nat → Enc × Enc
  | 0 => (([], []), ([], []))
  | n + 1 => if n = 0 then (pairAt a b 0, pairAt a b 0)
    else (if beforeE (pairAt a b n) (bestS g a b n).1 g = true then pairAt a b n else (bestS g a b n).1, if beforeE (bestS g a b n).2 (pairAt a b n) g = true then pairAt a b n else (bestS g a b n).2)
structure PairOk (g : Bool) (s : Bool) (p : Enc) : Prop where
  r : RightP p
  d : g = true → if s then 0 < fracQ p.2 else fracQ p.2 < 0
structure EndsOk (g s : Bool) (a b : Enc) : Prop where
  a1 : fracE a.1 = 0
  a2 : fracE a.2 = 0
  b1 : fracE b.1 = 0
  b2 : fracE b.2 = 0
  d1 : g = true → if s then 0 < fracQ b.1 else fracQ b.1 < 0
  d2 : g = true → if s then 0 < fracQ b.2 else fracQ b.2 < 0
theorem EndsOk.pair {g s : Bool} {a b : Enc} (h : EndsOk g s a b) {i j : Nat} (hi : i < 2) (hj : j < 2) : PairOk g s ([a.1, a.2].getD i [], [b.1, b.2].getD j []) := by
  rcases i with _ | _ | i
  · rcases j with _ | _ | j
    · exact ⟨⟨h.a1, h.b1⟩, h.d1⟩
    · exact ⟨⟨h.a1, h.b2⟩, h.d2⟩
    · omega
  · rcases j with _ | _ | j
    · exact ⟨⟨h.a2, h.b1⟩, h.d1⟩
    · exact ⟨⟨h.a2, h.b2⟩, h.d2⟩
    · omega
  · omega
theorem EndsOk.at {g s : Bool} {a b : Enc} (h : EndsOk g s a b) {n : Nat} (hn : n < 4) : PairOk g s (pairAt a b n) := h.pair (by omega) (by omega)
theorem EndsOk.best {g s : Bool} {a b : Enc} (h : EndsOk g s a b) : ∀ n, n < 4 → PairOk g s (bestS g a b (n + 1)).1 ∧ PairOk g s (bestS g a b (n + 1)).2
  | 0, _ => ⟨h.at (by omega), h.at (by omega)⟩
  | n + 1, hn => by
    obtain ⟨h1, h2⟩ := h.best n (by omega)
    have k := h.at hn
    show PairOk g s (if n + 1 = 0 then _ else _ : Enc × Enc).1 ∧ PairOk g s (if n + 1 = 0 then _ else _ : Enc × Enc).2
    rw [if_neg (by omega)]
    dsimp only
    constructor
    · split
      · exact k
      · exact h1
    · split
      · exact k
      · exact h2
end Go.Proofs.YtdejgaiocjfhjaaGreatDoor
namespace Go.Proofs.YtdejgaiocjfhjaaGreatDoor
open Go.Lib (decDigits)
def digL (s : List UInt8) : List Nat := s.reverse.map fun c => c.toNat - 48
theorem digL_len (s : List UInt8) : (digL s).length = s.length := by simp [digL]
theorem digL_snoc (s : List UInt8) (c : UInt8) : digL (s ++ [c]) = (c.toNat - 48) :: digL s := by simp [digL]
theorem digL_val (s : List UInt8) : valB 10 (digL s) = decV s := by
  induction s using snocRec with
  | nil => rfl
  | snoc s c ih => rw [digL_snoc, decV_snoc]; show (c.toNat - 48) + 10 * valB 10 (digL s) = _; rw [ih, Nat.add_comm]
theorem digL_ok {s : List UInt8} (h : DigitL s) : OkB 10 (digL s) := fun x hx => by
  obtain ⟨c, hc, rfl⟩ := List.mem_map.1 hx
  have := h c (List.mem_reverse.1 hc)
  omega
theorem digL_get (s : List UInt8) {k : Nat} (h : k < s.length) : (digL s).getD k 0 = (s.getD (s.length - 1 - k) 0).toNat - 48 := by
  unfold digL
  simp only [List.getD_eq_getElem?_getD, List.getElem?_map]
  rw [List.getElem?_reverse h, List.getElem?_eq_getElem (show s.length - 1 - k < s.length by omega)]
  rfl
structure MulK (a b : List Nat) (i k : Nat) (o : List Nat) : Prop where
  len : o.length = a.length + b.length
  bd : ∀ j, o.getD j 0 ≤ 81 * i + 81
  bz : ∀ j, i + k ≤ j → o.getD j 0 ≤ 81 * i
  v : valB 10 o = valB 10 (a.take i) * valB 10 b + 10 ^ i * (a.getD i 0 * valB 10 (b.take k))
theorem MulK.start (a b : List Nat) : MulK a b 0 0 (List.replicate (a.length + b.length) 0) := by
  have hz : ∀ j, (List.replicate (a.length + b.length) 0).getD j 0 = 0 := fun j => by
    rw [List.getD_eq_getElem?_getD, List.getElem?_replicate]; split <;> rfl
  exact ⟨List.length_replicate, fun j => by rw [hz]; omega, fun j _ => by rw [hz]; omega, by rw [valB_zeros]; simp [valB]⟩
theorem MulK.next {a b : List Nat} (ha : OkB 10 a) (hb : OkB 10 b) {i k : Nat} {o : List Nat} (h : MulK a b i k o) (hi : i < a.length) (hk : k < b.length) :
    MulK a b i (k + 1) (o.set (i + k) (o.getD (i + k) 0 + a.getD i 0 * b.getD k 0)) := by
  have h1 := okB_getD ha (by omega) i
  have h2 := okB_getD hb (by omega) k
  have hxy : a.getD i 0 * b.getD k 0 ≤ 9 * 9 := Nat.mul_le_mul (by omega) (by omega)
  have hlen := h.len
  have hz := h.bz (i + k) (Nat.le_refl _)
  refine ⟨by rw [List.length_set]; exact hlen, fun j => ?_, fun j hj => ?_, ?_⟩
  · rw [getD_set_nat _ _ _ _ (by omega)]
    split
    · omega
    · exact h.bd j
  · rw [getD_set_nat _ _ _ _ (by omega), if_neg (by omega)]
    exact h.bz j (by omega)
  · have hs := valB_set 10 o (j := i + k) (by omega) (o.getD (i + k) 0 + a.getD i 0 * b.getD k 0)
    have hv := h.v
    rw [valB_take_succ 10 b k]
    generalize valB 10 (o.set (i + k) (o.getD (i + k) 0 + a.getD i 0 * b.getD k 0)) = vo at *
    generalize valB 10 o = v0 at *
    generalize o.getD (i + k) 0 = oj at *
    generalize a.getD i 0 = x at *
    generalize b.getD k 0 = y at *
    generalize valB 10 (b.take k) = vb at *
    generalize valB 10 (a.take i) * valB 10 b = V at *
    have hq : 10 ^ (i + k) = 10 ^ i * 10 ^ k := Nat.pow_add ..
    have e3 : 10 ^ i * (x * (vb + 10 ^ k * y)) = 10 ^ i * (x * vb) + 10 ^ (i + k) * (x * y) := by
      rw [hq, Nat.mul_add x, Nat.mul_add (10 ^ i), Nat.mul_assoc (10 ^ i) (10 ^ k)]
      congr 2
      rw [Nat.mul_left_comm]
    rw [e3]
    rw [Nat.mul_add] at hs
    omega
theorem MulK.outer {a b : List Nat} {i : Nat} {o : List Nat} (h : MulK a b i b.length o) : MulK a b (i + 1) 0 o := by
  refine ⟨h.len, fun j => by have := h.bd j; omega, fun j _ => by have := h.bd j; omega, ?_⟩
  rw [h.v, List.take_length, valB_take_succ, Nat.add_mul, Nat.mul_assoc]
  simp [valB]
theorem MulK.done {a b : List Nat} {o : List Nat} (h : MulK a b a.length 0 o) : o.length = a.length + b.length ∧ (∀ j, o.getD j 0 ≤ 81 * a.length + 81) ∧ valB 10 o = valB 10 a * valB 10 b := by
  refine ⟨h.len, h.bd, ?_⟩
  rw [h.v, List.take_length]
  simp [valB]
structure CarI (N P M j : Nat) (o : List Nat) : Prop where
  len : o.length = N
  ok : ∀ i, i < j → o.getD i 0 < 10
  bd : o.getD j 0 ≤ 2 * M
  br : ∀ i, j < i → o.getD i 0 ≤ M
  v : valB 10 o = P
theorem CarI.start {o : List Nat} {M : Nat} (h : ∀ j, o.getD j 0 ≤ M) : CarI o.length (valB 10 o) M 0 o :=
  ⟨rfl, fun i hi => by omega, by have := h 0; omega, fun i _ => h i, rfl⟩
theorem CarI.next {N P M j : Nat} {o : List Nat} (h : CarI N P M j o) (hj : j + 1 < N) :
    CarI N P M (j + 1) ((o.set (j + 1) (o.getD (j + 1) 0 + o.getD j 0 / 10)).set j (o.getD j 0 % 10)) := by
  have hlen := h.len
  have h1 := h.bd
  have h2 := h.br (j + 1) (by omega)
  have hl1 : j + 1 < o.length := by omega
  have hl2 : j < (o.set (j + 1) (o.getD (j + 1) 0 + o.getD j 0 / 10)).length := by rw [List.length_set]; omega
  have hg : ∀ i, ((o.set (j + 1) (o.getD (j + 1) 0 + o.getD j 0 / 10)).set j (o.getD j 0 % 10)).getD i 0 =
      if j = i then o.getD j 0 % 10 else if j + 1 = i then o.getD (j + 1) 0 + o.getD j 0 / 10 else o.getD i 0 := fun i => by
    rw [getD_set_nat _ _ _ _ hl2, getD_set_nat _ _ _ _ hl1]
  refine ⟨by rw [List.length_set, List.length_set]; exact hlen, fun i hi => ?_, ?_, fun i hi => ?_, ?_⟩
  · rw [hg]
    by_cases e : j = i
    · rw [if_pos e]; omega
    · rw [if_neg e, if_neg (by omega)]; exact h.ok i (by omega)
  · rw [hg, if_neg (by omega), if_pos rfl]; omega
  · rw [hg, if_neg (by omega), if_neg (by omega)]; exact h.br i (by omega)
  · have s1 := valB_set 10 o hl1 (o.getD (j + 1) 0 + o.getD j 0 / 10)
    have s2 := valB_set 10 _ hl2 (o.getD j 0 % 10)
    rw [getD_set_nat _ _ _ _ hl1, if_neg (by omega)] at s2
    have hv := h.v
    generalize valB 10 ((o.set (j + 1) (o.getD (j + 1) 0 + o.getD j 0 / 10)).set j (o.getD j 0 % 10)) = v2 at *
    generalize valB 10 (o.set (j + 1) (o.getD (j + 1) 0 + o.getD j 0 / 10)) = v1 at *
    generalize o.getD (j + 1) 0 = y at *
    generalize o.getD j 0 = x at *
    have e : 10 ^ j * (x % 10 + 10 * (x / 10)) = 10 ^ j * x := by rw [Nat.mod_add_div]
    rw [Nat.mul_add] at s1 e
    rw [Nat.pow_succ] at s1
    rw [← Nat.mul_assoc] at e
    omega
theorem valB_last {o : List Nat} {n : Nat} (h : o.length = n + 1) : valB 10 o = valB 10 (o.take n) + 10 ^ n * o.getD n 0 := by
  rw [← valB_take_succ, ← h, List.take_length]
theorem CarI.done {N P M : Nat} {o : List Nat} (h : CarI (N + 1) P M N o) (hP : P < 10 ^ (N + 1)) : OkB 10 o := fun x hx => by
  obtain ⟨i, hi, rfl⟩ := List.getElem_of_mem hx
  have e : o.getD i 0 = o[i] := by simp [List.getD_eq_getElem?_getD, hi]
  rw [← e]
  have hlen := h.len
  by_cases k : i < N
  · exact h.ok i k
  · have hiN : i = N := by omega
    subst hiN
    have h2 := valB_last hlen
    rw [h.v] at h2
    rw [Nat.pow_succ] at hP
    have h3 : 10 ^ i * o.getD i 0 < 10 ^ i * 10 := by omega
    exact Nat.lt_of_mul_lt_mul_left h3
def prodV (l : List (List UInt8)) : Nat := l.foldl (fun v s => v * decV s) 1
theorem prodV_take {l : List (List UInt8)} {n : Nat} (h : n < l.length) : prodV (l.take (n + 1)) = prodV (l.take n) * decV (l.getD n []) := by
  have e : l.take (n + 1) = l.take n ++ [l.getD n []] := by
    rw [List.take_add_one, List.getD_eq_getElem?_getD, List.getElem?_eq_getElem h]; rfl
  rw [e]
  unfold prodV
  rw [List.foldl_append]
  rfl
def digT (t : List Nat) : List UInt8 := t.reverse.map fun d => UInt8.ofNat (48 + d)
theorem digT_digL {t : List Nat} (h : OkB 10 t) : digL (digT t) = t := by
  unfold digL digT
  rw [← List.map_reverse, List.reverse_reverse, List.map_map]
  conv => rhs; rw [← List.map_id t]
  refine List.map_congr_left fun x hx => ?_
  have := h x hx
  show (UInt8.ofNat (48 + x)).toNat - 48 = x
  rw [digit_toNat this]; omega
theorem digT_dec {t : List Nat} (h : OkB 10 t) (h1 : 1 ≤ t.length) (h2 : t.length = 1 ∨ t.getD (t.length - 1) 0 ≠ 0) : digT t = decDigits (valB 10 t) := by
  have hv : decV (digT t) = valB 10 t := by rw [← digL_val, digT_digL h]
  rw [← hv]
  symm
  refine canon_back ⟨fun c hc => ?_, ?_, ?_⟩
  · obtain ⟨d, hd, rfl⟩ := List.mem_map.1 hc
    have := h d (List.mem_reverse.1 hd)
    rw [digit_toNat this]; omega
  · intro e
    have := congrArg List.length e
    simp [digT] at this
    rw [this] at h1; simp at h1
  · by_cases h3 : t.getD (t.length - 1) 0 = 0
    · right
      have h4 : t.length = 1 := h2.resolve_right (not_not_intro h3)
      match t, h4 with
      | [x], _ =>
        have : x = 0 := by simpa using h3
        subst this; rfl
    · left
      have h5 : (digT t).head? = some (UInt8.ofNat (48 + t.getD (t.length - 1) 0)) := by
        unfold digT
        rw [List.head?_map, List.head?_reverse, List.getLast?_eq_getElem?, List.getD_eq_getElem?_getD, List.getElem?_eq_getElem (show t.length - 1 < t.length by omega)]
        rfl
      rw [h5]
      intro e
      have e2 := congrArg (Option.map UInt8.toNat) e
      simp only [Option.map_some, Option.some.injEq] at e2
      have h6 := okB_getD h (by omega) (t.length - 1)
      rw [digit_toNat h6] at e2
      have : (48 : UInt8).toNat = 48 := rfl
      omega
theorem digT_len (t : List Nat) : (digT t).length = t.length := by simp [digT]
theorem digT_take {t : List Nat} {k : Nat} (h : k < t.length) : (digT t).take (k + 1) = (digT t).take k ++ [UInt8.ofNat (48 + t.getD (t.length - 1 - k) 0)] := by
  unfold digT
  rw [List.take_add_one, List.getElem?_map, List.getElem?_reverse h, List.getElem?_eq_getElem (show t.length - 1 - k < t.length by omega),
    List.getD_eq_getElem?_getD, List.getElem?_eq_getElem (show t.length - 1 - k < t.length by omega)]
  rfl
end Go.Proofs.YtdejgaiocjfhjaaGreatDoor
namespace Go.Proofs.YtdejgaiocjfhjaaGreatDoor
open Go.RowKit
theorem byteCells_one (c : UInt8) : Lib.byteCells [c] = [.int .u8 (c.toNat : Int)] := rfl
set_option maxHeartbeats 2000000 in
set_option maxRecDepth 100000 in
theorem WriteByte_any (b n3 : Nat) (l : Txt) (c : UInt8) (w : World) (h : BldW b n3 l w) (hb : b < n3) (hn : n3 ≤ w.heap.size) (hlen : l.length ≤ 100000) :
    Calls Tryz.prog 143 #[.pointer (some ⟨b, 0, none⟩), .int .u8 (c.toNat : Int)] w fun e w' => e = .returned .nilIface ∧ BldW b n3 (l ++ [c]) w' ∧ Below b w w' := by
  obtain ⟨i0, hi, hz0, hz1, hz2⟩ := info_parts Tryz.Builder_Extra_169.infoByte
  obtain ⟨p, v, h1, h2, h3⟩ := h
  have hbw : b < w.heap.size := by omega
  have hvb : v.ownBlock ≠ some b := fun e => by have := (row_ge h3 e).1; omega
  have hCC : Hid (Calls Tryz.prog 171 #[.pointer (some ⟨b, 0, none⟩)] w fun e w' => e = .returned (.tuple #[]) ∧ w'.heap[b]? = some (.cells #[.pointer (some ⟨b, 0, none⟩), v] 176 (0, 0)) ∧ Chg (fun k => k = b) w w' ∧ Below b w w') := by
    rcases h2 with rfl | rfl
    · refine (copyCheck_fresh b w (by simp [World.cell?, h1]) (by simp [World.shape?, h1]) (by simp [World.frozen?, h1])).mono ?_
      rintro e w' ⟨rfl, rfl⟩
      refine ⟨rfl, ?_, Chg.setCell (B := fun k => k = b) ⟨b, 0, none⟩ _ rfl, (Below.refl b w).setCell (p := ⟨b, 0, none⟩) (Nat.le_refl _) _⟩
      simp only [World.setCell, Array.getElem?_modify, h1]
      simp
    · refine (copyCheck_used b w (by simp [World.cell?, h1])).mono ?_
      rintro e w' ⟨rfl, rfl⟩
      exact ⟨rfl, h1, Chg.refl _ _, Below.refl _ _⟩
  have HR := Lib.hid h3
  have HV := Lib.hid hvb
  clear h1 h2 h3 hvb
  go_enter Tryz.func143, Tryz.ntmps143
  go_wp2_with (go_at_call 171; refine hCC.out.mono ?_)
  rintro e w1 ⟨rfl, k1, k2, k3⟩
  have c0 : w1.cell? ⟨b, 0, none⟩ = some (.pointer (some ⟨b, 0, none⟩)) := by rw [Lib.cell_of_heap k1]; rfl
  have c1 : w1.cell? ⟨b, 1, none⟩ = some v := by rw [Lib.cell_of_heap k1]; rfl
  have hz := k2.1
  have hlt0 : b < w1.heap.size := by omega
  have hA : Ext w1 (w1.alloc (.cells #[.int .u8 (c.toNat : Int)] 5)) := extA
  have hown : (w1.alloc (.cells #[.int .u8 (c.toNat : Int)] 5)).ownsRow n3 5 1 v l.length (Lib.byteCells l) := row_same HR.out (fun g hg => by
    obtain ⟨_, cur, hh⟩ := row_ge HR.out hg
    have hg2 := (Array.getElem?_eq_some_iff.1 hh).1
    exact (hA.block g (by omega)).trans (k2.2 g hg2 (fun e => HV.out (e ▸ hg))))
  have hnew : (w1.alloc (.cells #[.int .u8 (c.toNat : Int)] 5)).cell? ⟨w1.heap.size, 0, none⟩ = some (.int .u8 (c.toNat : Int)) := by go_simp
  have e1 : (w1.alloc (.cells #[.int .u8 (c.toNat : Int)] 5)).heap[b]? = some (.cells #[.pointer (some ⟨b, 0, none⟩), v] 176 (0, 0)) := (hA.block b hlt0).trans k1
  have hs2 : w1.heap.size < (w1.alloc (.cells #[.int .u8 (c.toNat : Int)] 5)).heap.size := by show _ < (w1.heap.push _).size; rw [Array.size_push]; omega
  have HB1 : Hid (Below b w (w1.alloc (.cells #[.int .u8 (c.toNat : Int)] 5))) := k3.trans (hA.mono (by omega))
  have e0 := e1
  clear k1 k2 k3 HR
  go_wp2_with (at_builtin; refine Go.wpList_append_own _ rfl _ _ 174 rfl n3 5 i0 (.int .u8 0) 1 1 Tryz.underlying174 hi hz0 hz1 hz2 rfl (by decide) _ _ _ rfl hown ⟨w1.heap.size, 0, none⟩ 1 1 [.int .u8 (c.toNat : Int)] rfl rfl ?c1 ?c2 ?c3 ?c4 ?c5 ?_)
  case c1 =>
    intro j u hj
    match j, hj with
    | 0, hj => simp only [List.getElem?_cons_zero, Option.some.injEq] at hj; subst hj; exact hnew
  case c2 => intro u hu; rw [List.mem_singleton.1 hu]; rfl
  case c3 => unfold maxLen; omega
  case c4 => omega
  case c5 => omega
  intro v' w2 hown' hgrow _
  generalize w1.alloc (.cells #[.int .u8 (c.toNat : Int)] 5) = w1' at *
  have hlt : b < w1'.heap.size := by omega
  have hb2 : w2.heap[b]? = some (.cells #[.pointer (some ⟨b, 0, none⟩), v] 176 (0, 0)) := by
    rw [hgrow.block b hlt (fun e => HV.out e.symm)]
    exact e0
  have d0 : w2.cell? ⟨b, 0, none⟩ = some (.pointer (some ⟨b, 0, none⟩)) := by rw [Lib.cell_of_heap hb2]; rfl
  have d1 : w2.cell? ⟨b, 1, none⟩ = some v := by rw [Lib.cell_of_heap hb2]; rfl
  have f1 : w2.frozen? ⟨b, 1, none⟩ = false := Lib.frozen_of_heap hb2 1
  obtain ⟨ao, n', cap, rfl⟩ : ∃ ao n' cap, v' = .slice ao n' cap := by
    rcases hown'.2 with ⟨hv, _⟩ | ⟨g, cap, cur, hv, _⟩
    · exact ⟨_, _, _, hv⟩
    · exact ⟨_, _, _, hv⟩
  have hW : BldW b n3 (l ++ [c]) (w2.setCell ⟨b, 1, none⟩ (.slice ao n' cap)) := by
    refine ⟨.pointer (some ⟨b, 0, none⟩), .slice ao n' cap, ?_, .inr rfl, ?_⟩
    · show (w2.setCell ⟨b, 1, none⟩ (.slice ao n' cap)).heap[b]? = some (.cells #[.pointer (some ⟨b, 0, none⟩), .slice ao n' cap] _ (0, 0))
      simp only [World.setCell, Array.getElem?_modify, hb2]
      simp
    · have h9 : (w2.setCell ⟨b, 1, none⟩ (.slice ao n' cap)).ownsRow n3 5 1 (.slice ao n' cap) (l.length + 1) (Lib.byteCells l ++ [.int .u8 (c.toNat : Int)]) :=
        row_same hown' (fun g hg => Below.heap_setCell _ ⟨b, 1, none⟩ _ g (fun e => by have := (row_ge hown' hg).1; dsimp only at e; omega))
      rw [← byteCells_one, ← byteCells_app] at h9
      rw [List.length_append]
      exact h9
  have hB : Below b w (w2.setCell ⟨b, 1, none⟩ (.slice ao n' cap)) :=
    (HB1.out.grown hgrow (by omega) (fun k hk => by have := (row_ge hown hk).1; omega)).setCell (p := ⟨b, 1, none⟩) (Nat.le_refl _) _
  have HF := Lib.hid (And.intro hW hB)
  clear hW hB hown hown' hgrow HB1
  go_wp2
  go_ret
  exact ⟨rfl, HF.out⟩
end Go.Proofs.YtdejgaiocjfhjaaGreatDoor
namespace Go.Proofs.YtdejgaiocjfhjaaGreatDoor
open Go.RowKit
open Go.Lib (decDigits)
structure ProdA (ls : List Txt) (n : Nat) (a : List Nat) : Prop where
  ok : OkB 10 a
  l1 : 1 ≤ a.length
  l2 : a.length ≤ 1 + 60 * n
  v : valB 10 a = prodV (ls.take n)
theorem ProdA.start (ls : List Txt) : ProdA ls 0 [1] := ⟨(fun x hx => by rw [List.mem_singleton.1 hx]; omega), by simp, by simp, by simp [valB, prodV]⟩
theorem ProdA.next {ls : List Txt} {n : Nat} {a o : List Nat} (h : ProdA ls n a) (hn : n < ls.length) (hs : DigitL (ls.getD n []) ∧ (ls.getD n []).length ≤ 60) {P M : Nat}
    (hP : P = valB 10 a * valB 10 (digL (ls.getD n []))) {N : Nat} (hN : N + 1 = a.length + (ls.getD n []).length) (hc : CarI (N + 1) P M N o) : ProdA ls (n + 1) o := by
  have hlen := hc.len
  have h1 := h.l1
  have h2 := h.l2
  have hlt : P < 10 ^ (N + 1) := by
    rw [hP, hN, Nat.pow_add]
    have k1 := valB_lt h.ok
    have k2 := valB_lt (digL_ok hs.1)
    rw [digL_len] at k2
    exact Nat.mul_lt_mul'' k1 k2
  refine ⟨hc.done hlt, by omega, by omega, ?_⟩
  rw [hc.v, hP, prodV_take hn, h.v, digL_val]
theorem cells1i (w : World) (t : TypeId) : CellsN .i64 (w.alloc (.cells #[.int .i64 1] t)) (some ⟨w.heap.size, 0, none⟩) [1] := by
  intro i hi
  have : i = 0 := by simp at hi; omega
  subst this
  exact ⟨_, _, rfl, by simp⟩
theorem take_get {a : List Nat} {t i : Nat} (h : i < t) : (a.take t).getD i 0 = a.getD i 0 := by
  rw [List.getD_eq_getElem?_getD, List.getD_eq_getElem?_getD, List.getElem?_take_of_lt h]
theorem take_val {a : List Nat} {t : Nat} (h0 : a.getD t 0 = 0) : valB 10 (a.take t) = valB 10 (a.take (t + 1)) := by
  rw [valB_take_succ, h0, Nat.mul_zero, Nat.add_zero]
set_option maxHeartbeats 8000000 in
set_option maxRecDepth 100000 in
theorem product_any (ls : List Txt) (a : Option Addr) (cap : Nat) (w : World) (hc : CellsT w a ls) (hn : ls.length ≤ 4) (hL : ∀ k, k < ls.length → DigitL (ls.getD k []) ∧ (ls.getD k []).length ≤ 60) :
    Calls Tryz.prog 111 #[.slice a ls.length cap] w fun e w' => e = .returned (txt (decDigits (prodV ls))) ∧ Ext w w' := by
  have HC := Lib.hid hc
  have HL := Lib.hid hL
  clear hc hL
  have C0 := Lib.hid (cells1i w 3)
  have E0 : Ext w (w.alloc (.cells #[.int .i64 1] 3)) := (Ext.refl _).alloc _
  go_enter Tryz.func111, Tryz.ntmps111
  go_wp2
  go_loopw [3, 16] (fun o i wr => ∃ (k ob : Nat) (a1 : List Nat), k ≤ ls.length ∧ o = .slice (some ⟨ob, 0, none⟩) a1.length a1.length ∧ i = .int .i64 k ∧ Hid (ProdA ls k a1) ∧ Hid (CellsN .i64 wr (some ⟨ob, 0, none⟩) a1) ∧ Ext w wr) (fun _ i _ => ls.length - (intOf i).toNat)
  case atStart => exact ⟨0, w.heap.size, [1], by omega, rfl, rfl, ProdA.start ls, C0.out, E0⟩
  case round =>
    clear C0 E0
    obtain ⟨k, ob, a1, hk, rfl, rfl, HP, HA, he⟩ := hrel
    have hl1 := HP.out.l1
    have hl2 := HP.out.l2
    obtain ⟨wo, hwo⟩ : ∃ wo, wo = wr := ⟨wr, rfl⟩
    subst hwo
    by_cases h1 : k < ls.length
    · have hki : (k : Int) < (ls.length : Int) := by omega
      obtain ⟨b1, o1, ha1, p1⟩ := HC.out.ext he k h1
      subst ha1
      have hs60 := (HL.out k h1).2
      have HS := Lib.hid (HL.out k h1)
      obtain ⟨s, hs⟩ : ∃ s, s = ls.getD k [] := ⟨_, rfl⟩
      have HSE := Lib.hid hs
      rw [← hs] at p1 hs60 HS
      clear hs
      obtain ⟨N, hN⟩ : ∃ N, N = a1.length + s.length := ⟨_, rfl⟩
      have hmk : (Instr.makeSlice 127 (.int .i64 ((a1.length : Int) + (s.length : Int))) (.int .i64 ((a1.length : Int) + (s.length : Int)))).run Tryz.prog wo = .ok (.slice (some ⟨wo.heap.size, 0, none⟩) N N) (wo.alloc (.cells (madeCells #[.int .i64 0] N) 3)) := by
        rw [← Int.natCast_add, ← hN]
        exact run_make_row' _ _ (.int .i64 0) 8 Tryz.underlying127 infoI64 rfl _ _ N (by omega) (by omega) wo
      have O0 : Hid (OwnsN .i64 3 (wo.alloc (.cells (madeCells #[.int .i64 0] N) 3)) (.slice (some ⟨wo.heap.size, 0, none⟩) N N) (List.replicate N 0)) := madeN _ _ _ N (by omega)
      have E0 : Ext wo (wo.alloc (.cells (madeCells #[.int .i64 0] N) 3)) := (Ext.refl _).alloc _
      generalize hW : wo.alloc (.cells (madeCells #[.int .i64 0] N) 3) = W at hmk O0 E0
      clear hW
      obtain ⟨nb, hnb⟩ : ∃ nb, nb = wo.heap.size := ⟨_, rfl⟩
      rw [← hnb] at hmk O0
      have HNB := Lib.hid hnb
      have HNN := Lib.hid hN
      clear hN hnb
      have HI0 : Hid (MulK a1 (digL s) 0 0 (List.replicate N 0)) := by show MulK _ _ _ _ _; rw [HNN.out, ← digL_len s]; exact MulK.start _ _
      go_wp2
      clear hmk
      go_loopw [28] (fun i wr => ∃ (m : Nat), m ≤ a1.length ∧ i = .int .i64 m ∧ Hid (∃ o, MulK a1 (digL s) m 0 o ∧ OwnsN .i64 3 wr (.slice (some ⟨nb, 0, none⟩) N N) o) ∧ Ext wo wr) (fun i _ => a1.length - (intOf i).toNat)
      case atStart => exact ⟨0, by omega, rfl, ⟨_, HI0.out, O0.out⟩, E0⟩
      case round =>
        clear HI0 O0 E0 p1
        obtain ⟨m, hm, rfl, HW, hE⟩ := hrel
        by_cases h2 : m < a1.length
        · have hmi : (m : Int) < (a1.length : Int) := by omega
          obtain ⟨b2, o2, ha2, p2⟩ := HA.out.ext hE m h2
          cases ha2
          obtain ⟨x, hx⟩ : ∃ x, x = a1.getD m 0 := ⟨_, rfl⟩
          have hx9 : x < 10 := by rw [hx]; exact okB_getD HP.out.ok (by omega) m
          have HX := Lib.hid hx
          rw [← hx, Nat.zero_add] at p2
          clear hx
          obtain ⟨w1, hw1⟩ : ∃ w1, w1 = wr := ⟨wr, rfl⟩
          subst hw1
          go_wp2
          go_loopw [35] (fun i wr => ∃ (n : Nat), n ≤ s.length ∧ i = .int .i64 n ∧ Hid (∃ o, MulK a1 (digL s) m n o ∧ OwnsN .i64 3 wr (.slice (some ⟨nb, 0, none⟩) N N) o) ∧ Ext wo wr) (fun i _ => s.length - (intOf i).toNat)
          case atStart => exact ⟨0, by omega, rfl, HW.out, hE⟩
          case round =>
            clear HW p2 hE
            obtain ⟨n, hn2, rfl, HW, hE⟩ := hrel
            obtain ⟨o, HO1, HO2⟩ := HW.out
            have HOL := Lib.hid HO1.len
            have HOM := Lib.hid HO1
            have HO := Lib.hid HO2
            clear HO1 HO2 HW
            by_cases h3 : n < s.length
            · have hni : (n : Int) < (s.length : Int) := by omega
              have hmn : m + n < o.length := by have := HOL.out; rw [digL_len] at this; omega
              obtain ⟨s1, s2⟩ := HO.out.at hmn
              obtain ⟨y, hy⟩ : ∃ y, y = o.getD (m + n) 0 := ⟨_, rfl⟩
              have hyb : y ≤ 81 * m := by rw [hy]; exact HOM.out.bz _ (Nat.le_refl _)
              obtain ⟨q, hq⟩ : ∃ q, q = s.length - 1 - n := ⟨_, rfl⟩
              have hqs : q < s.length := by omega
              obtain ⟨c, hc⟩ : ∃ c, c = s[q]'hqs := ⟨_, rfl⟩
              have hget : ∀ h, (⟨s.toArray⟩ : ByteArray)[q]'h = c := fun h => by rw [hc]; rfl
              have hcd : 48 ≤ c.toNat ∧ c.toNat ≤ 57 := HS.out.1 c (by rw [hc]; exact List.getElem_mem _)
              have hnx := HOM.out.next HP.out.ok (digL_ok HS.out.1) h2 (by rw [digL_len]; exact h3)
              rw [digL_get s h3, ← hq, ← HX.out, ← hy, show s.getD q 0 = c by rw [hc]; simp [List.getD_eq_getElem?_getD, hqs]] at hnx
              rw [← hy] at s1
              obtain ⟨z, hz⟩ : ∃ z, z = x * (c.toNat - 48) := ⟨_, rfl⟩
              have hz81 : z ≤ 9 * 9 := by rw [hz]; exact Nat.mul_le_mul (by omega) (by omega)
              rw [← hz] at hnx
              have HNX := Lib.hid hnx
              have hw1 : IntKind.i64.wrap ((m : Int) + (n : Int)) = ((m + n : Nat) : Int) := by rw [IntKind.wrap_i64]; omega
              have hw2 : IntKind.i64.wrap ((s.length : Int) - 1) = (s.length : Int) - 1 := by rw [IntKind.wrap_i64]; omega
              have hw3 : IntKind.i64.wrap ((s.length : Int) - 1 - (n : Int)) = (q : Int) := by rw [IntKind.wrap_i64]; omega
              have hw4 : IntKind.u8.wrap ((c.toNat : Int) - 48) = (c.toNat : Int) - 48 := by rw [IntKind.wrap_u8]; omega
              have hw5 : IntKind.i64.wrap ((c.toNat : Int) - 48) = (c.toNat : Int) - 48 := by rw [IntKind.wrap_i64]; omega
              have hzz : (x : Int) * ((c.toNat : Int) - 48) = (z : Int) := by rw [hz, Int.natCast_mul, Int.natCast_sub hcd.1]; rfl
              have hw6 : IntKind.i64.wrap ((x : Int) * ((c.toNat : Int) - 48)) = (z : Int) := by rw [hzz, IntKind.wrap_i64]; omega
              have hw7 : IntKind.i64.wrap ((y : Int) + (z : Int)) = ((y + z : Nat) : Int) := by rw [IntKind.wrap_i64]; omega
              have hmN : m + n < N := by have := HNN.out; omega
              have hmNi : ((m + n : Nat) : Int) < (N : Int) := by omega
              have hqi : (q : Int) < (s.length : Int) := by omega
              have HO2 := Lib.hid ((HO.out.set (m + n) (y + z)).ext (Ext.refl _).drew)
              have E2 : Ext wo (wr.setCell ⟨nb, m + n, none⟩ (.int .i64 ((y + z : Nat) : Int))).drew := (Ext.set hE (by rw [HNB.out]; exact Nat.le_refl _) _).drew
              clear hnx hy hq hc hz hzz HO hyb hz81
              generalize m + n = r at *
              generalize y + z = t at *
              go_wp2
              go_region
              go_wp2
              refine ⟨⟨n + 1, by omega, by go_num, ⟨_, HNX.out, HO2.out⟩, E2⟩, by simp [intOf]; omega⟩
            · have hns : n = s.length := by omega
              have HN2 : Hid (∃ o, MulK a1 (digL s) (m + 1) 0 o ∧ OwnsN .i64 3 wr (.slice (some ⟨nb, 0, none⟩) N N) o) := by
                refine ⟨o, ?_, HO.out⟩
                have h := HOM.out
                rw [hns, ← digL_len s] at h
                exact h.outer
              clear HO HOM HOL hns
              go_wp2
              refine ⟨⟨m + 1, by omega, by go_num, HN2, hE⟩, by simp [intOf]; omega⟩
        · have hma : m = a1.length := by omega
          obtain ⟨o, hO1, hO2⟩ := HW.out
          rw [hma] at hO1
          obtain ⟨k1, k2, k3⟩ := hO1.done
          obtain ⟨T, hT⟩ : ∃ T, T = N - 1 := ⟨_, rfl⟩
          have hTN : T + 1 = N := by have := HNN.out; omega
          have HI1 : Hid (CarI (T + 1) (valB 10 a1 * valB 10 (digL s)) (81 * a1.length + 81) 0 o) := by
            have h := CarI.start k2
            rw [k1, k3, digL_len, ← HNN.out, ← hTN] at h
            exact h
          have HO1 := Lib.hid hO2
          have hTl : T ≤ 400 := by have := HNN.out; omega
          have hwT : IntKind.i64.wrap ((N : Int) - 1) = (T : Int) := by have := HNN.out; rw [IntKind.wrap_i64]; omega
          clear hO1 hO2 HW k1 k2 k3 hma hT hm
          obtain ⟨w1, hw1⟩ : ∃ w1, w1 = wr := ⟨wr, rfl⟩
          subst hw1
          go_wp2
          go_loopw [62] (fun i wr => ∃ (j : Nat), j ≤ T ∧ i = .int .i64 j ∧ Hid (∃ o, CarI (T + 1) (valB 10 a1 * valB 10 (digL s)) (81 * a1.length + 81) j o ∧ OwnsN .i64 3 wr (.slice (some ⟨nb, 0, none⟩) N N) o) ∧ Ext wo wr) (fun i _ => T - (intOf i).toNat)
          case atStart => exact ⟨0, by omega, rfl, ⟨_, HI1.out, HO1.out⟩, hE⟩
          case round =>
            clear HI1 HO1 hE
            obtain ⟨j, hj, rfl, HW, hE⟩ := hrel
            obtain ⟨o, hO1, hO2⟩ := HW.out
            have HOL := Lib.hid hO1.len
            have HOM := Lib.hid hO1
            have HO := Lib.hid hO2
            clear hO1 hO2 HW
            by_cases h3 : j < T
            · have hji : (j : Int) < (T : Int) := by omega
              obtain ⟨s1, s2⟩ := HO.out.at (i := j) (by have := HOL.out; omega)
              obtain ⟨r1, r2⟩ := HO.out.at (i := j + 1) (by have := HOL.out; omega)
              have hnx := HOM.out.next (by omega)
              have hbd := HOM.out.bd
              have hbr := HOM.out.br (j + 1) (by omega)
              have HO2 := HO.out.set (j + 1) (o.getD (j + 1) 0 + o.getD j 0 / 10)
              have f2 := HO2.at (i := j) (by rw [List.length_set]; have := HOL.out; omega)
              rw [getD_set_nat _ _ _ _ (by have := HOL.out; omega), if_neg (by omega)] at f2
              obtain ⟨t1, t2⟩ := f2
              have E2 : Ext wo (wr.setCell ⟨nb, j + 1, none⟩ (.int .i64 ((o.getD (j + 1) 0 + o.getD j 0 / 10 : Nat) : Int))).drew := (Ext.set hE (by rw [HNB.out]; exact Nat.le_refl _) _).drew
              have HO3 := ((HO2.ext (Ext.refl _).drew)).set j (o.getD j 0 % 10)
              have E3 := Ext.set E2 (b := nb) (o := j) (by rw [HNB.out]; exact Nat.le_refl _) (.int .i64 ((o.getD j 0 % 10 : Nat) : Int))
              replace t1 := ((Ext.refl _).drew).cell t1
              replace t2 : (wr.setCell ⟨nb, j + 1, none⟩ (.int .i64 ((o.getD (j + 1) 0 + o.getD j 0 / 10 : Nat) : Int))).drew.frozen? ⟨nb, j, none⟩ = false := by rw [World.frozen?_drew]; exact t2
              generalize hx : o.getD j 0 = x at *
              generalize hy : o.getD (j + 1) 0 = y at *
              obtain ⟨q, hq⟩ : ∃ q, q = x / 10 := ⟨_, rfl⟩
              obtain ⟨d, hd⟩ : ∃ d, d = x % 10 := ⟨_, rfl⟩
              rw [← hq] at hnx HO3 E2 E3 t1 t2
              rw [← hd] at hnx HO3 E3
              have hw1 : IntKind.i64.wrap ((j : Int) + 1) = (j : Int) + 1 := by rw [IntKind.wrap_i64]; omega
              have ht1 : (x : Int).tmod 10 = (d : Int) := by rw [Int.tmod_eq_emod_of_nonneg (by omega)]; omega
              have ht2 : (x : Int).tdiv 10 = (q : Int) := by rw [Int.tdiv_eq_ediv_of_nonneg (by omega)]; omega
              have hw2 : IntKind.i64.wrap (q : Int) = (q : Int) := by rw [IntKind.wrap_i64]; omega
              have hw3 : IntKind.i64.wrap ((y : Int) + (q : Int)) = ((y + q : Nat) : Int) := by rw [IntKind.wrap_i64]; omega
              have hw4 : IntKind.i64.wrap (d : Int) = (d : Int) := by rw [IntKind.wrap_i64]; omega
              have hb1 : (j : Int) + 1 < (N : Int) := by omega
              have hb2 : (j : Int) < (N : Int) := by omega
              have HNX := Lib.hid hnx
              have HOO := Lib.hid HO3
              clear hnx hx hy hq hd HO HO2 HO3 hbd hbr HOM
              generalize y + q = t at *
              go_wp2
              go_region
              go_wp2
              refine ⟨⟨j + 1, by omega, by go_num, ⟨_, HNX.out, HOO.out⟩, E3⟩, by simp [intOf]; omega⟩
            · have hjT : j = T := by omega
              have hPA : ProdA ls (k + 1) o := by
                have h := HOM.out
                rw [hjT, HSE.out] at h
                exact HP.out.next h1 (HL.out k h1) rfl (by rw [← HSE.out, ← HNN.out]; exact hTN) h
              have hlN : N = o.length := by rw [← hTN]; exact HOL.out.symm
              have HPA := Lib.hid hPA
              have hCC : CellsN .i64 wr (some ⟨nb, 0, none⟩) o := by
                obtain ⟨oa, oc, hov, hoc, _, _⟩ := HO.out.reads
                obtain ⟨e1, _, _⟩ := Value.slice.inj hov
                subst e1
                exact hoc
              have HCC := Lib.hid hCC
              have HlN := Lib.hid hlN
              clear hPA hCC hlN HOM HO HOL hjT
              go_wp2
              refine ⟨⟨k + 1, nb, o, by omega, by rw [HlN.out], by go_num, HPA, HCC, he.trans hE⟩, by simp [intOf]; omega⟩
    · have hkl : k = ls.length := by omega
      have HV : Hid (valB 10 a1 = prodV ls) := by
        show _ = _
        have h := HP.out.v
        rwa [hkl, List.take_length] at h
      have HOK := Lib.hid HP.out.ok
      have hl3 : a1.length ≤ 241 := by omega
      clear HP hkl hl2
      go_wp2
      go_loop [3] (fun v => ∃ t : Nat, 1 ≤ t ∧ t ≤ a1.length ∧ v = .slice (some ⟨ob, 0, none⟩) t a1.length ∧ Hid (valB 10 (a1.take t) = prodV ls)) (fun v => match v with | .slice _ n _ => n | _ => 0)
      case atStart => exact ⟨a1.length, hl1, Nat.le_refl _, rfl, by show _ = _; rw [List.take_length]; exact HV.out⟩
      case round =>
        obtain ⟨t, ht1, ht2, rfl, hz⟩ := hrel
        obtain ⟨q, rfl⟩ : ∃ q, t = q + 1 := ⟨t - 1, by omega⟩
        obtain ⟨b2, o2, ha2, p2⟩ := HA.out q (by omega)
        cases ha2
        rw [Nat.zero_add] at p2
        by_cases hgo : 0 < q ∧ a1.getD q 0 = 0
        · obtain ⟨h2, h3⟩ := hgo
          rw [h3] at p2
          have hz2 : Hid (valB 10 (a1.take q) = prodV ls) := by
            show _ = _
            rw [take_val h3]; exact hz.out
          clear h3 hz
          go_wp2
          refine ⟨⟨q, by omega, by omega, by first | rfl | go_num, hz2⟩, by simp⟩
        · have hstop : q = 0 ∨ (0 < q ∧ a1.getD q 0 ≠ 0) := by
            by_cases h : q = 0
            · exact .inl h
            · exact .inr ⟨by omega, fun e => hgo ⟨by omega, e⟩⟩
          have HT : Hid (digT (a1.take (q + 1)) = decDigits (prodV ls)) := by
            show _ = _
            have hlt : (a1.take (q + 1)).length = q + 1 := by rw [List.length_take]; omega
            rw [← hz.out]
            refine digT_dec (fun x hx => HOK.out x (List.mem_of_mem_take hx)) (by omega) ?_
            rw [hlt]
            rcases hstop with h | h
            · exact .inl (by omega)
            · right; rw [take_get (by omega)]; exact h.2
          have HDB := Lib.hid (fun (m : Nat) (hm : m < q + 1) => digT_take (t := a1.take (q + 1)) (k := m) (by rw [List.length_take]; omega))
          have HDL : Hid ((decDigits (prodV ls)).length = q + 1) := by show _ = _; rw [← HT.out, digT_len, List.length_take]; omega
          rw [HT.out] at HDB
          obtain ⟨D, hD⟩ : ∃ D, D = decDigits (prodV ls) := ⟨_, rfl⟩
          rw [← hD] at HDB HDL
          have HDE := Lib.hid hD
          clear hD
          have E1 : Ext wo (wo.alloc (.cells #[.pointer none, .slice none 0 0] 176)) := extA
          have hb3 : (wo.alloc (.cells #[.pointer none, .slice none 0 0] 176)).heap[wo.heap.size]? = some (.cells #[.pointer none, .slice none 0 0] 176 (0, 0)) := World.alloc_heap_new _ _
          have hs3 : (wo.alloc (.cells #[.pointer none, .slice none 0 0] 176)).heap.size = wo.heap.size + 1 := by simp
          have HB0 : Hid (BldW wo.heap.size (wo.heap.size + 1) (D.take 0) (wo.alloc (.cells #[.pointer none, .slice none 0 0] 176))) := BldW.fresh hb3
          have HA1 : Hid (CellsN .i64 (wo.alloc (.cells #[.pointer none, .slice none 0 0] 176)) (some ⟨ob, 0, none⟩) a1) := HA.out.ext E1
          have EE := he.trans E1
          have hob : ob < wo.heap.size := cell_lt p2
          have hws := he.size
          clear hb3 HT HV HA E1
          rcases hstop with hq | ⟨hq, hx⟩
          · have hqi : ¬ 0 < q := by omega
            clear p2 hq
            go_wp2
            go_loopw [105] (fun i W => ∃ m : Nat, m ≤ q + 1 ∧ i = .int .i64 m ∧ Hid (BldW wo.heap.size (wo.heap.size + 1) (D.take m) W) ∧ Hid (CellsN .i64 W (some ⟨ob, 0, none⟩) a1) ∧ Ext w W ∧ wo.heap.size + 1 ≤ W.heap.size) (fun i _ => q + 1 - (intOf i).toNat)
            case atStart => exact ⟨0, by omega, rfl, HB0.out, HA1.out, EE, by omega⟩
            case round =>
              clear HB0 HA1 EE hs3
              obtain ⟨m, hm, rfl, HB, HA, hE, hz⟩ := hrel
              obtain ⟨W0, hW0⟩ : ∃ W0, W0 = wr := ⟨wr, rfl⟩
              subst hW0
              by_cases h3 : m < q + 1
              · obtain ⟨r, hr⟩ : ∃ r, r = q - m := ⟨_, rfl⟩
                obtain ⟨b2, o2, ha2, p2⟩ := HA.out r (by omega)
                cases ha2
                rw [Nat.zero_add] at p2
                have hd := okB_getD HOK.out (by omega) r
                have hnx := HDB.out m h3
                rw [show (a1.take (q + 1)).length - 1 - m = r by rw [List.length_take]; omega, take_get (by omega)] at hnx
                generalize a1.getD r 0 = d at p2 hd hnx
                obtain ⟨c, hc⟩ : ∃ c, c = UInt8.ofNat (48 + d) := ⟨_, rfl⟩
                rw [← hc] at hnx
                have hcn : c.toNat = 48 + d := by rw [hc]; exact digit_toNat hd
                have hw2 : IntKind.i64.wrap ((q : Int) - (m : Int)) = (r : Int) := by rw [IntKind.wrap_i64]; omega
                have hw3 : IntKind.i64.wrap (48 + (d : Int)) = 48 + (d : Int) := by rw [IntKind.wrap_i64]; omega
                have hw4 : IntKind.u8.wrap (48 + (d : Int)) = (c.toNat : Int) := by rw [IntKind.wrap_u8, hcn]; omega
                have hri : (r : Int) < ((q + 1 : Nat) : Int) := by omega
                have hmi : (m : Int) < ((q + 1 : Nat) : Int) := by omega
                have HWB := Lib.hid (WriteByte_any wo.heap.size (wo.heap.size + 1) (D.take m) c W0 HB.out (by omega) hz (by have := HDL.out; rw [List.length_take]; omega))
                rw [← hnx] at HWB
                clear hr hc hcn hnx hd HB
                go_wp2_with (go_at_call 143; refine HWB.out.mono ?_; rintro e w5 ⟨rfl, hB5, hE5⟩)
                have HB5 := Lib.hid hB5
                have HA5 : Hid (CellsN .i64 w5 (some ⟨ob, 0, none⟩) a1) := fun i hi => by
                  obtain ⟨b, off, h1, h2⟩ := HA.out i hi
                  refine ⟨b, off, h1, ?_⟩
                  cases h1
                  rw [Below.cell hE5 (by show ob < wo.heap.size; exact hob)]
                  exact h2
                have E5 := hE.trans' hE5 hws
                have hz5 := hE5.size
                clear hB5 hE5 HWB HA p2
                go_wp2
                refine ⟨⟨m + 1, by omega, by go_num, HB5, HA5, E5, by omega⟩, by simp [intOf]; omega⟩
              · have hmt : D.take m = D := List.take_of_length_le (by have := HDL.out; omega)
                rw [hmt] at HB
                have HS := Lib.hid (Tryz.Builder_String_any wo.heap.size wo.heap.size D W0 (HB.out.is (by omega)) (by omega))
                have hmi : ¬ (m : Int) < ((q + 1 : Nat) : Int) := by omega
                clear hmt HB HA
                go_wp2_with (go_at_call 144; refine HS.out.mono ?_; rintro e w5 ⟨rfl, hE5⟩)
                refine bodyPost_ret (v := txt D) ((results_tmp (t := 2) rfl _ _ _).trans rfl) rfl ?_
                exact ⟨by rw [HDE.out], hE.trans' hE5 hws⟩
          · have hx2 : ((a1.getD q 0 : Int) == 0) = false := by rw [beq_eq_false_iff_ne]; omega
            generalize a1.getD q 0 = x at p2 hx2 hx
            go_wp2
            clear p2 hx2 hx
            go_loopw [105] (fun i W => ∃ m : Nat, m ≤ q + 1 ∧ i = .int .i64 m ∧ Hid (BldW wo.heap.size (wo.heap.size + 1) (D.take m) W) ∧ Hid (CellsN .i64 W (some ⟨ob, 0, none⟩) a1) ∧ Ext w W ∧ wo.heap.size + 1 ≤ W.heap.size) (fun i _ => q + 1 - (intOf i).toNat)
            case atStart => exact ⟨0, by omega, rfl, HB0.out, HA1.out, EE, by omega⟩
            case round =>
              clear HB0 HA1 EE hs3
              obtain ⟨m, hm, rfl, HB, HA, hE, hz⟩ := hrel
              obtain ⟨W0, hW0⟩ : ∃ W0, W0 = wr := ⟨wr, rfl⟩
              subst hW0
              by_cases h3 : m < q + 1
              · obtain ⟨r, hr⟩ : ∃ r, r = q - m := ⟨_, rfl⟩
                obtain ⟨b2, o2, ha2, p2⟩ := HA.out r (by omega)
                cases ha2
                rw [Nat.zero_add] at p2
                have hd := okB_getD HOK.out (by omega) r
                have hnx := HDB.out m h3
                rw [show (a1.take (q + 1)).length - 1 - m = r by rw [List.length_take]; omega, take_get (by omega)] at hnx
                generalize a1.getD r 0 = d at p2 hd hnx
                obtain ⟨c, hc⟩ : ∃ c, c = UInt8.ofNat (48 + d) := ⟨_, rfl⟩
                rw [← hc] at hnx
                have hcn : c.toNat = 48 + d := by rw [hc]; exact digit_toNat hd
                have hw2 : IntKind.i64.wrap ((q : Int) - (m : Int)) = (r : Int) := by rw [IntKind.wrap_i64]; omega
                have hw3 : IntKind.i64.wrap (48 + (d : Int)) = 48 + (d : Int) := by rw [IntKind.wrap_i64]; omega
                have hw4 : IntKind.u8.wrap (48 + (d : Int)) = (c.toNat : Int) := by rw [IntKind.wrap_u8, hcn]; omega
                have hri : (r : Int) < ((q + 1 : Nat) : Int) := by omega
                have hmi : (m : Int) < ((q + 1 : Nat) : Int) := by omega
                have HWB := Lib.hid (WriteByte_any wo.heap.size (wo.heap.size + 1) (D.take m) c W0 HB.out (by omega) hz (by have := HDL.out; rw [List.length_take]; omega))
                rw [← hnx] at HWB
                clear hr hc hcn hnx hd HB
                go_wp2_with (go_at_call 143; refine HWB.out.mono ?_; rintro e w5 ⟨rfl, hB5, hE5⟩)
                have HB5 := Lib.hid hB5
                have HA5 : Hid (CellsN .i64 w5 (some ⟨ob, 0, none⟩) a1) := fun i hi => by
                  obtain ⟨b, off, h1, h2⟩ := HA.out i hi
                  refine ⟨b, off, h1, ?_⟩
                  cases h1
                  rw [Below.cell hE5 (by show ob < wo.heap.size; exact hob)]
                  exact h2
                have E5 := hE.trans' hE5 hws
                have hz5 := hE5.size
                clear hB5 hE5 HWB HA p2
                go_wp2
                refine ⟨⟨m + 1, by omega, by go_num, HB5, HA5, E5, by omega⟩, by simp [intOf]; omega⟩
              · have hmt : D.take m = D := List.take_of_length_le (by have := HDL.out; omega)
                rw [hmt] at HB
                have HS := Lib.hid (Tryz.Builder_String_any wo.heap.size wo.heap.size D W0 (HB.out.is (by omega)) (by omega))
                have hmi : ¬ (m : Int) < ((q + 1 : Nat) : Int) := by omega
                clear hmt HB HA
                go_wp2_with (go_at_call 144; refine HS.out.mono ?_; rintro e w5 ⟨rfl, hE5⟩)
                refine bodyPost_ret (v := txt D) ((results_tmp (t := 2) rfl _ _ _).trans rfl) rfl ?_
                exact ⟨by rw [HDE.out], hE.trans' hE5 hws⟩
end Go.Proofs.YtdejgaiocjfhjaaGreatDoor
