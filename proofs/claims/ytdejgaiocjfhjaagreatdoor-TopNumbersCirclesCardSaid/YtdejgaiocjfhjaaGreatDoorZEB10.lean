/- Steps of the proof: EMeetR, EBel, EEnds, EAdd, EAddR, EBest, EDig, EWrB. No conditions. -/
import Derived.LoopN
import Derived.Test.YtdejgaiocjfhjaaGreatDoorZEB1
import Derived.Test.YtdejgaiocjfhjaaGreatDoorZEB2
import Derived.Test.YtdejgaiocjfhjaaGreatDoorZEB3
import Derived.Test.YtdejgaiocjfhjaaGreatDoorZEB4
import Derived.Test.YtdejgaiocjfhjaaGreatDoorZEB5
import Derived.Test.YtdejgaiocjfhjaaGreatDoorZEB6
import Derived.Test.YtdejgaiocjfhjaaGreatDoorZEB7
import Derived.Test.YtdejgaiocjfhjaaGreatDoorZEB8
import Derived.Test.YtdejgaiocjfhjaaGreatDoorZEB9
namespace Go.Proofs.YtdejgaiocjfhjaaGreatDoor
open Go.RowKit
def CommonP (r : Enc × Bool) (w : World) (e : Ending) (w' : World) : Prop := e = .returned (.tuple #[encV r.1, .bool r.2]) ∧ Ext w w'
set_option maxHeartbeats 16000000 in
set_option maxRecDepth 100000 in
theorem rCommon_any (a b : Enc) (w : World) (hl : LenE a) (hm : LenE b) (hr : Right2 a.1 a.2 b.1 b.2) : Calls Tryz.prog 85 #[encV a, encV b] w (CommonP (commonE a b) w) := by
  unfold CommonP
  obtain ⟨C, hC⟩ : ∃ C, C = commonE a b := ⟨_, rfl⟩
  rw [← hC]
  obtain ⟨f1, f2, f3, f4⟩ := hr
  have HO1 : Hid (∀ W, Calls Tryz.prog 72 #[txt b.1, txt a.1] W fun e w' => e = .returned (.int .i64 (ordQ b.1 a.1)) ∧ Ext W w') := fun W => rOrder_any b.1 a.1 W f3 f1 hm.1 hl.1
  have HO2 : Hid (∀ W, Calls Tryz.prog 72 #[txt b.2, txt a.2] W fun e w' => e = .returned (.int .i64 (ordQ b.2 a.2)) ∧ Ext W w') := fun W => rOrder_any b.2 a.2 W f4 f2 hm.2 hl.2
  have HO3 : Hid (∀ x y, (x = a.1 ∨ x = b.1) → (y = a.2 ∨ y = b.2) → ∀ W, Calls Tryz.prog 72 #[txt x, txt y] W fun e w' => e = .returned (.int .i64 (ordQ x y)) ∧ Ext W w') := fun x y hx hy W => by
    refine rOrder_any x y W ?_ ?_ ?_ ?_
    · rcases hx with rfl | rfl
      · exact f1
      · exact f3
    · rcases hy with rfl | rfl
      · exact f2
      · exact f4
    · rcases hx with rfl | rfl
      · exact hl.1
      · exact hm.1
    · rcases hy with rfl | rfl
      · exact hl.2
      · exact hm.2
  have HR : Hid (∀ x y, x = (if 0 < ordQ b.1 a.1 then b.1 else a.1) → y = (if ordQ b.2 a.2 < 0 then b.2 else a.2) → C = if 0 < ordQ x y then (([], []), false) else ((x, y), true)) := fun x y hx hy => by
    have e1 : lowMeet a b = x := hx.symm
    have e2 : highMeet a b = y := hy.symm
    rw [hC]
    unfold commonE
    rw [e1, e2]
  clear f1 f2 f3 f4 hl hm hC
  obtain ⟨l, h⟩ := a
  obtain ⟨m, k⟩ := b
  dsimp only [encV] at HO1 HO2 HO3 HR ⊢
  generalize ordQ m l = z1 at *
  generalize ordQ k h = z2 at *
  by_cases h1 : 0 < z1
  · have HR1 := HR
    by_cases h2 : z2 < 0
    · have HRX : Hid (C = if 0 < ordQ m k then (([], []), false) else ((m, k), true)) := HR1.out m k (by rw [if_pos h1]) (by rw [if_pos h2])
      have HO4 := Lib.hid (HO3.out m k (.inr rfl) (.inr rfl))
      clear HR1 HR HO3
      generalize ordQ m k = z3 at HRX HO4
      by_cases h3 : 0 < z3
      · rw [if_pos h3] at HRX
        have P : EncAt w.heap.size ((((w.alloc (.cells #[txt l, txt h] 24)).alloc (.cells #[txt m, txt k] 24)).alloc (.cells #[.string ⟨#[]⟩, .string ⟨#[]⟩] 24)).alloc (.cells #[txt l, txt h] 24)) l h := ⟨by go_simp, by go_simp, by go_simp, by go_simp⟩
        have Q : EncAt (w.heap.size + 1) ((((w.alloc (.cells #[txt l, txt h] 24)).alloc (.cells #[txt m, txt k] 24)).alloc (.cells #[.string ⟨#[]⟩, .string ⟨#[]⟩] 24)).alloc (.cells #[txt l, txt h] 24)) m k := ⟨by go_simp, by go_simp, by go_simp, by go_simp⟩
        have X : EncAt (w.heap.size + 1 + 1) ((((w.alloc (.cells #[txt l, txt h] 24)).alloc (.cells #[txt m, txt k] 24)).alloc (.cells #[.string ⟨#[]⟩, .string ⟨#[]⟩] 24)).alloc (.cells #[txt l, txt h] 24)) [] [] := ⟨by go_simp, by go_simp, by go_simp, by go_simp⟩
        have Y : EncAt (w.heap.size + 1 + 1 + 1) ((((w.alloc (.cells #[txt l, txt h] 24)).alloc (.cells #[txt m, txt k] 24)).alloc (.cells #[.string ⟨#[]⟩, .string ⟨#[]⟩] 24)).alloc (.cells #[txt l, txt h] 24)) l h := ⟨by go_simp, by go_simp, by go_simp, by go_simp⟩
        have E : Ext w ((((w.alloc (.cells #[txt l, txt h] 24)).alloc (.cells #[txt m, txt k] 24)).alloc (.cells #[.string ⟨#[]⟩, .string ⟨#[]⟩] 24)).alloc (.cells #[txt l, txt h] 24)) := extA
        go_enter Tryz.func85, Tryz.ntmps85
        go_wp2_with fail
        obtain ⟨ob, hob⟩ : ∃ ob, ob = w.heap.size + 1 + 1 + 1 := ⟨_, rfl⟩
        have n0 : w.heap.size ≠ ob := by omega
        have n1 : w.heap.size + 1 ≠ ob := by omega
        have n2 : w.heap.size + 1 + 1 ≠ ob := by omega
        have hwb : w.heap.size ≤ ob := by omega
        rw [← hob] at Y ⊢
        generalize ((((w.alloc (.cells #[txt l, txt h] 24)).alloc (.cells #[txt m, txt k] 24)).alloc (.cells #[.string ⟨#[]⟩, .string ⟨#[]⟩] 24)).alloc (.cells #[txt l, txt h] 24)) = w4 at Y E X P Q ⊢
        clear hob
        have hh := HO1.out w4
        clear HO1
        refine hh.mono ?_
        clear hh
        rintro e w5 ⟨rfl, hE⟩
        have P5 := Lib.hid ((P).ext hE); have Q5 := Lib.hid ((Q).ext hE); have X5 := Lib.hid ((X).ext hE); have Y5 := Lib.hid ((Y).ext hE); obtain ⟨c0, c1, _, _⟩ := P5.out; obtain ⟨c2, c3, _, _⟩ := Q5.out; obtain ⟨d0, d1, g0, g1⟩ := X5.out; obtain ⟨y0, y1, p0, p1⟩ := Y5.out
        replace E := E.trans hE
        clear P Q X Y hE
        go_wp2_with fail
        clear c0 c1 c2 c3 d0 d1 g0 g1 y0 y1 p0 p1
        have P := P5.out.other (o := 0) (v := txt m) n0
        have Q := Q5.out.other (o := 0) (v := txt m) n1
        have X := X5.out.other (o := 0) (v := txt m) n2
        have Y := Y5.out.set0 m
        replace E := E.set hwb (o := 0) (txt m)
        clear P5 Q5 X5 Y5
        go_wp2_with (go_at_call 72; have hh := HO2; clear HO2; (refine (hh.out _).mono ?_); clear hh; rintro e w6 ⟨rfl, hE⟩; have P5 := Lib.hid ((P).ext hE); have Q5 := Lib.hid ((Q).ext hE); have X5 := Lib.hid ((X).ext hE); have Y5 := Lib.hid ((Y).ext hE); obtain ⟨c0, c1, _, _⟩ := P5.out; obtain ⟨c2, c3, _, _⟩ := Q5.out; obtain ⟨d0, d1, g0, g1⟩ := X5.out; obtain ⟨y0, y1, p0, p1⟩ := Y5.out)
        replace E := E.trans hE
        clear P Q X Y hE c0 c1 c2 c3 d0 d1 g0 g1 y0 y1 p0 p1
        have P := P5.out.other (o := 1) (v := txt k) n0
        have Q := Q5.out.other (o := 1) (v := txt k) n1
        have X := X5.out.other (o := 1) (v := txt k) n2
        have Y := Y5.out.set1 k
        replace E := E.set hwb (o := 1) (txt k)
        clear P5 Q5 X5 Y5
        go_wp2_with (go_at_call 72; (refine (HO4.out _).mono ?_); rintro e w7 ⟨rfl, hE⟩; have P5 := Lib.hid ((P).ext hE); have Q5 := Lib.hid ((Q).ext hE); have X5 := Lib.hid ((X).ext hE); have Y5 := Lib.hid ((Y).ext hE); obtain ⟨c0, c1, _, _⟩ := P5.out; obtain ⟨c2, c3, _, _⟩ := Q5.out; obtain ⟨d0, d1, g0, g1⟩ := X5.out; obtain ⟨y0, y1, p0, p1⟩ := Y5.out)
        replace E := E.trans hE
        refine bodyPost_ret (v := .tuple #[.agg #[txt [], txt []], .bool false]) (by rw [results_cell_tmp1 rfl]; go_simp) rfl ?_
        exact ⟨by first | (rw [HRX.out]; done) | (rw [HRX.out]; rfl), extA⟩
      · rw [if_neg h3] at HRX
        have P : EncAt w.heap.size ((((w.alloc (.cells #[txt l, txt h] 24)).alloc (.cells #[txt m, txt k] 24)).alloc (.cells #[.string ⟨#[]⟩, .string ⟨#[]⟩] 24)).alloc (.cells #[txt l, txt h] 24)) l h := ⟨by go_simp, by go_simp, by go_simp, by go_simp⟩
        have Q : EncAt (w.heap.size + 1) ((((w.alloc (.cells #[txt l, txt h] 24)).alloc (.cells #[txt m, txt k] 24)).alloc (.cells #[.string ⟨#[]⟩, .string ⟨#[]⟩] 24)).alloc (.cells #[txt l, txt h] 24)) m k := ⟨by go_simp, by go_simp, by go_simp, by go_simp⟩
        have X : EncAt (w.heap.size + 1 + 1) ((((w.alloc (.cells #[txt l, txt h] 24)).alloc (.cells #[txt m, txt k] 24)).alloc (.cells #[.string ⟨#[]⟩, .string ⟨#[]⟩] 24)).alloc (.cells #[txt l, txt h] 24)) [] [] := ⟨by go_simp, by go_simp, by go_simp, by go_simp⟩
        have Y : EncAt (w.heap.size + 1 + 1 + 1) ((((w.alloc (.cells #[txt l, txt h] 24)).alloc (.cells #[txt m, txt k] 24)).alloc (.cells #[.string ⟨#[]⟩, .string ⟨#[]⟩] 24)).alloc (.cells #[txt l, txt h] 24)) l h := ⟨by go_simp, by go_simp, by go_simp, by go_simp⟩
        have E : Ext w ((((w.alloc (.cells #[txt l, txt h] 24)).alloc (.cells #[txt m, txt k] 24)).alloc (.cells #[.string ⟨#[]⟩, .string ⟨#[]⟩] 24)).alloc (.cells #[txt l, txt h] 24)) := extA
        go_enter Tryz.func85, Tryz.ntmps85
        go_wp2_with fail
        obtain ⟨ob, hob⟩ : ∃ ob, ob = w.heap.size + 1 + 1 + 1 := ⟨_, rfl⟩
        have n0 : w.heap.size ≠ ob := by omega
        have n1 : w.heap.size + 1 ≠ ob := by omega
        have n2 : w.heap.size + 1 + 1 ≠ ob := by omega
        have hwb : w.heap.size ≤ ob := by omega
        rw [← hob] at Y ⊢
        generalize ((((w.alloc (.cells #[txt l, txt h] 24)).alloc (.cells #[txt m, txt k] 24)).alloc (.cells #[.string ⟨#[]⟩, .string ⟨#[]⟩] 24)).alloc (.cells #[txt l, txt h] 24)) = w4 at Y E X P Q ⊢
        clear hob
        have hh := HO1.out w4
        clear HO1
        refine hh.mono ?_
        clear hh
        rintro e w5 ⟨rfl, hE⟩
        have P5 := Lib.hid ((P).ext hE); have Q5 := Lib.hid ((Q).ext hE); have X5 := Lib.hid ((X).ext hE); have Y5 := Lib.hid ((Y).ext hE); obtain ⟨c0, c1, _, _⟩ := P5.out; obtain ⟨c2, c3, _, _⟩ := Q5.out; obtain ⟨d0, d1, g0, g1⟩ := X5.out; obtain ⟨y0, y1, p0, p1⟩ := Y5.out
        replace E := E.trans hE
        clear P Q X Y hE
        go_wp2_with fail
        clear c0 c1 c2 c3 d0 d1 g0 g1 y0 y1 p0 p1
        have P := P5.out.other (o := 0) (v := txt m) n0
        have Q := Q5.out.other (o := 0) (v := txt m) n1
        have X := X5.out.other (o := 0) (v := txt m) n2
        have Y := Y5.out.set0 m
        replace E := E.set hwb (o := 0) (txt m)
        clear P5 Q5 X5 Y5
        go_wp2_with (go_at_call 72; have hh := HO2; clear HO2; (refine (hh.out _).mono ?_); clear hh; rintro e w6 ⟨rfl, hE⟩; have P5 := Lib.hid ((P).ext hE); have Q5 := Lib.hid ((Q).ext hE); have X5 := Lib.hid ((X).ext hE); have Y5 := Lib.hid ((Y).ext hE); obtain ⟨c0, c1, _, _⟩ := P5.out; obtain ⟨c2, c3, _, _⟩ := Q5.out; obtain ⟨d0, d1, g0, g1⟩ := X5.out; obtain ⟨y0, y1, p0, p1⟩ := Y5.out)
        replace E := E.trans hE
        clear P Q X Y hE c0 c1 c2 c3 d0 d1 g0 g1 y0 y1 p0 p1
        have P := P5.out.other (o := 1) (v := txt k) n0
        have Q := Q5.out.other (o := 1) (v := txt k) n1
        have X := X5.out.other (o := 1) (v := txt k) n2
        have Y := Y5.out.set1 k
        replace E := E.set hwb (o := 1) (txt k)
        clear P5 Q5 X5 Y5
        go_wp2_with (go_at_call 72; (refine (HO4.out _).mono ?_); rintro e w7 ⟨rfl, hE⟩; have P5 := Lib.hid ((P).ext hE); have Q5 := Lib.hid ((Q).ext hE); have X5 := Lib.hid ((X).ext hE); have Y5 := Lib.hid ((Y).ext hE); obtain ⟨c0, c1, _, _⟩ := P5.out; obtain ⟨c2, c3, _, _⟩ := Q5.out; obtain ⟨d0, d1, g0, g1⟩ := X5.out; obtain ⟨y0, y1, p0, p1⟩ := Y5.out)
        replace E := E.trans hE
        refine bodyPost_ret (v := .tuple #[.agg #[txt m, txt k], .bool true]) (by rw [results_cell_tmp1 rfl]; go_simp) rfl ?_
        exact ⟨by first | (rw [HRX.out]; done) | (rw [HRX.out]; rfl), extA⟩
    · have HRX : Hid (C = if 0 < ordQ m h then (([], []), false) else ((m, h), true)) := HR1.out m h (by rw [if_pos h1]) (by rw [if_neg h2])
      have HO4 := Lib.hid (HO3.out m h (.inr rfl) (.inl rfl))
      clear HR1 HR HO3
      generalize ordQ m h = z3 at HRX HO4
      by_cases h3 : 0 < z3
      · rw [if_pos h3] at HRX
        have P : EncAt w.heap.size ((((w.alloc (.cells #[txt l, txt h] 24)).alloc (.cells #[txt m, txt k] 24)).alloc (.cells #[.string ⟨#[]⟩, .string ⟨#[]⟩] 24)).alloc (.cells #[txt l, txt h] 24)) l h := ⟨by go_simp, by go_simp, by go_simp, by go_simp⟩
        have Q : EncAt (w.heap.size + 1) ((((w.alloc (.cells #[txt l, txt h] 24)).alloc (.cells #[txt m, txt k] 24)).alloc (.cells #[.string ⟨#[]⟩, .string ⟨#[]⟩] 24)).alloc (.cells #[txt l, txt h] 24)) m k := ⟨by go_simp, by go_simp, by go_simp, by go_simp⟩
        have X : EncAt (w.heap.size + 1 + 1) ((((w.alloc (.cells #[txt l, txt h] 24)).alloc (.cells #[txt m, txt k] 24)).alloc (.cells #[.string ⟨#[]⟩, .string ⟨#[]⟩] 24)).alloc (.cells #[txt l, txt h] 24)) [] [] := ⟨by go_simp, by go_simp, by go_simp, by go_simp⟩
        have Y : EncAt (w.heap.size + 1 + 1 + 1) ((((w.alloc (.cells #[txt l, txt h] 24)).alloc (.cells #[txt m, txt k] 24)).alloc (.cells #[.string ⟨#[]⟩, .string ⟨#[]⟩] 24)).alloc (.cells #[txt l, txt h] 24)) l h := ⟨by go_simp, by go_simp, by go_simp, by go_simp⟩
        have E : Ext w ((((w.alloc (.cells #[txt l, txt h] 24)).alloc (.cells #[txt m, txt k] 24)).alloc (.cells #[.string ⟨#[]⟩, .string ⟨#[]⟩] 24)).alloc (.cells #[txt l, txt h] 24)) := extA
        go_enter Tryz.func85, Tryz.ntmps85
        go_wp2_with fail
        obtain ⟨ob, hob⟩ : ∃ ob, ob = w.heap.size + 1 + 1 + 1 := ⟨_, rfl⟩
        have n0 : w.heap.size ≠ ob := by omega
        have n1 : w.heap.size + 1 ≠ ob := by omega
        have n2 : w.heap.size + 1 + 1 ≠ ob := by omega
        have hwb : w.heap.size ≤ ob := by omega
        rw [← hob] at Y ⊢
        generalize ((((w.alloc (.cells #[txt l, txt h] 24)).alloc (.cells #[txt m, txt k] 24)).alloc (.cells #[.string ⟨#[]⟩, .string ⟨#[]⟩] 24)).alloc (.cells #[txt l, txt h] 24)) = w4 at Y E X P Q ⊢
        clear hob
        have hh := HO1.out w4
        clear HO1
        refine hh.mono ?_
        clear hh
        rintro e w5 ⟨rfl, hE⟩
        have P5 := Lib.hid ((P).ext hE); have Q5 := Lib.hid ((Q).ext hE); have X5 := Lib.hid ((X).ext hE); have Y5 := Lib.hid ((Y).ext hE); obtain ⟨c0, c1, _, _⟩ := P5.out; obtain ⟨c2, c3, _, _⟩ := Q5.out; obtain ⟨d0, d1, g0, g1⟩ := X5.out; obtain ⟨y0, y1, p0, p1⟩ := Y5.out
        replace E := E.trans hE
        clear P Q X Y hE
        go_wp2_with fail
        clear c0 c1 c2 c3 d0 d1 g0 g1 y0 y1 p0 p1
        have P := P5.out.other (o := 0) (v := txt m) n0
        have Q := Q5.out.other (o := 0) (v := txt m) n1
        have X := X5.out.other (o := 0) (v := txt m) n2
        have Y := Y5.out.set0 m
        replace E := E.set hwb (o := 0) (txt m)
        clear P5 Q5 X5 Y5
        go_wp2_with (go_at_call 72; have hh := HO2; clear HO2; (refine (hh.out _).mono ?_); clear hh; rintro e w6 ⟨rfl, hE⟩; have P5 := Lib.hid ((P).ext hE); have Q5 := Lib.hid ((Q).ext hE); have X5 := Lib.hid ((X).ext hE); have Y5 := Lib.hid ((Y).ext hE); obtain ⟨c0, c1, _, _⟩ := P5.out; obtain ⟨c2, c3, _, _⟩ := Q5.out; obtain ⟨d0, d1, g0, g1⟩ := X5.out; obtain ⟨y0, y1, p0, p1⟩ := Y5.out)
        replace E := E.trans hE
        clear P Q X Y hE c0 c1 c2 c3 d0 d1 g0 g1 y0 y1 p0 p1
        have P := P5.out
        have Q := Q5.out
        have X := X5.out
        have Y := Y5.out
        clear P5 Q5 X5 Y5
        go_wp2_with (go_at_call 72; (refine (HO4.out _).mono ?_); rintro e w7 ⟨rfl, hE⟩; have P5 := Lib.hid ((P).ext hE); have Q5 := Lib.hid ((Q).ext hE); have X5 := Lib.hid ((X).ext hE); have Y5 := Lib.hid ((Y).ext hE); obtain ⟨c0, c1, _, _⟩ := P5.out; obtain ⟨c2, c3, _, _⟩ := Q5.out; obtain ⟨d0, d1, g0, g1⟩ := X5.out; obtain ⟨y0, y1, p0, p1⟩ := Y5.out)
        replace E := E.trans hE
        refine bodyPost_ret (v := .tuple #[.agg #[txt [], txt []], .bool false]) (by rw [results_cell_tmp1 rfl]; go_simp) rfl ?_
        exact ⟨by first | (rw [HRX.out]; done) | (rw [HRX.out]; rfl), extA⟩
      · rw [if_neg h3] at HRX
        have P : EncAt w.heap.size ((((w.alloc (.cells #[txt l, txt h] 24)).alloc (.cells #[txt m, txt k] 24)).alloc (.cells #[.string ⟨#[]⟩, .string ⟨#[]⟩] 24)).alloc (.cells #[txt l, txt h] 24)) l h := ⟨by go_simp, by go_simp, by go_simp, by go_simp⟩
        have Q : EncAt (w.heap.size + 1) ((((w.alloc (.cells #[txt l, txt h] 24)).alloc (.cells #[txt m, txt k] 24)).alloc (.cells #[.string ⟨#[]⟩, .string ⟨#[]⟩] 24)).alloc (.cells #[txt l, txt h] 24)) m k := ⟨by go_simp, by go_simp, by go_simp, by go_simp⟩
        have X : EncAt (w.heap.size + 1 + 1) ((((w.alloc (.cells #[txt l, txt h] 24)).alloc (.cells #[txt m, txt k] 24)).alloc (.cells #[.string ⟨#[]⟩, .string ⟨#[]⟩] 24)).alloc (.cells #[txt l, txt h] 24)) [] [] := ⟨by go_simp, by go_simp, by go_simp, by go_simp⟩
        have Y : EncAt (w.heap.size + 1 + 1 + 1) ((((w.alloc (.cells #[txt l, txt h] 24)).alloc (.cells #[txt m, txt k] 24)).alloc (.cells #[.string ⟨#[]⟩, .string ⟨#[]⟩] 24)).alloc (.cells #[txt l, txt h] 24)) l h := ⟨by go_simp, by go_simp, by go_simp, by go_simp⟩
        have E : Ext w ((((w.alloc (.cells #[txt l, txt h] 24)).alloc (.cells #[txt m, txt k] 24)).alloc (.cells #[.string ⟨#[]⟩, .string ⟨#[]⟩] 24)).alloc (.cells #[txt l, txt h] 24)) := extA
        go_enter Tryz.func85, Tryz.ntmps85
        go_wp2_with fail
        obtain ⟨ob, hob⟩ : ∃ ob, ob = w.heap.size + 1 + 1 + 1 := ⟨_, rfl⟩
        have n0 : w.heap.size ≠ ob := by omega
        have n1 : w.heap.size + 1 ≠ ob := by omega
        have n2 : w.heap.size + 1 + 1 ≠ ob := by omega
        have hwb : w.heap.size ≤ ob := by omega
        rw [← hob] at Y ⊢
        generalize ((((w.alloc (.cells #[txt l, txt h] 24)).alloc (.cells #[txt m, txt k] 24)).alloc (.cells #[.string ⟨#[]⟩, .string ⟨#[]⟩] 24)).alloc (.cells #[txt l, txt h] 24)) = w4 at Y E X P Q ⊢
        clear hob
        have hh := HO1.out w4
        clear HO1
        refine hh.mono ?_
        clear hh
        rintro e w5 ⟨rfl, hE⟩
        have P5 := Lib.hid ((P).ext hE); have Q5 := Lib.hid ((Q).ext hE); have X5 := Lib.hid ((X).ext hE); have Y5 := Lib.hid ((Y).ext hE); obtain ⟨c0, c1, _, _⟩ := P5.out; obtain ⟨c2, c3, _, _⟩ := Q5.out; obtain ⟨d0, d1, g0, g1⟩ := X5.out; obtain ⟨y0, y1, p0, p1⟩ := Y5.out
        replace E := E.trans hE
        clear P Q X Y hE
        go_wp2_with fail
        clear c0 c1 c2 c3 d0 d1 g0 g1 y0 y1 p0 p1
        have P := P5.out.other (o := 0) (v := txt m) n0
        have Q := Q5.out.other (o := 0) (v := txt m) n1
        have X := X5.out.other (o := 0) (v := txt m) n2
        have Y := Y5.out.set0 m
        replace E := E.set hwb (o := 0) (txt m)
        clear P5 Q5 X5 Y5
        go_wp2_with (go_at_call 72; have hh := HO2; clear HO2; (refine (hh.out _).mono ?_); clear hh; rintro e w6 ⟨rfl, hE⟩; have P5 := Lib.hid ((P).ext hE); have Q5 := Lib.hid ((Q).ext hE); have X5 := Lib.hid ((X).ext hE); have Y5 := Lib.hid ((Y).ext hE); obtain ⟨c0, c1, _, _⟩ := P5.out; obtain ⟨c2, c3, _, _⟩ := Q5.out; obtain ⟨d0, d1, g0, g1⟩ := X5.out; obtain ⟨y0, y1, p0, p1⟩ := Y5.out)
        replace E := E.trans hE
        clear P Q X Y hE c0 c1 c2 c3 d0 d1 g0 g1 y0 y1 p0 p1
        have P := P5.out
        have Q := Q5.out
        have X := X5.out
        have Y := Y5.out
        clear P5 Q5 X5 Y5
        go_wp2_with (go_at_call 72; (refine (HO4.out _).mono ?_); rintro e w7 ⟨rfl, hE⟩; have P5 := Lib.hid ((P).ext hE); have Q5 := Lib.hid ((Q).ext hE); have X5 := Lib.hid ((X).ext hE); have Y5 := Lib.hid ((Y).ext hE); obtain ⟨c0, c1, _, _⟩ := P5.out; obtain ⟨c2, c3, _, _⟩ := Q5.out; obtain ⟨d0, d1, g0, g1⟩ := X5.out; obtain ⟨y0, y1, p0, p1⟩ := Y5.out)
        replace E := E.trans hE
        refine bodyPost_ret (v := .tuple #[.agg #[txt m, txt h], .bool true]) (by rw [results_cell_tmp1 rfl]; go_simp) rfl ?_
        exact ⟨by first | (rw [HRX.out]; done) | (rw [HRX.out]; rfl), extA⟩
  · have HR1 := HR
    by_cases h2 : z2 < 0
    · have HRX : Hid (C = if 0 < ordQ l k then (([], []), false) else ((l, k), true)) := HR1.out l k (by rw [if_neg h1]) (by rw [if_pos h2])
      have HO4 := Lib.hid (HO3.out l k (.inl rfl) (.inr rfl))
      clear HR1 HR HO3
      generalize ordQ l k = z3 at HRX HO4
      by_cases h3 : 0 < z3
      · rw [if_pos h3] at HRX
        have P : EncAt w.heap.size ((((w.alloc (.cells #[txt l, txt h] 24)).alloc (.cells #[txt m, txt k] 24)).alloc (.cells #[.string ⟨#[]⟩, .string ⟨#[]⟩] 24)).alloc (.cells #[txt l, txt h] 24)) l h := ⟨by go_simp, by go_simp, by go_simp, by go_simp⟩
        have Q : EncAt (w.heap.size + 1) ((((w.alloc (.cells #[txt l, txt h] 24)).alloc (.cells #[txt m, txt k] 24)).alloc (.cells #[.string ⟨#[]⟩, .string ⟨#[]⟩] 24)).alloc (.cells #[txt l, txt h] 24)) m k := ⟨by go_simp, by go_simp, by go_simp, by go_simp⟩
        have X : EncAt (w.heap.size + 1 + 1) ((((w.alloc (.cells #[txt l, txt h] 24)).alloc (.cells #[txt m, txt k] 24)).alloc (.cells #[.string ⟨#[]⟩, .string ⟨#[]⟩] 24)).alloc (.cells #[txt l, txt h] 24)) [] [] := ⟨by go_simp, by go_simp, by go_simp, by go_simp⟩
        have Y : EncAt (w.heap.size + 1 + 1 + 1) ((((w.alloc (.cells #[txt l, txt h] 24)).alloc (.cells #[txt m, txt k] 24)).alloc (.cells #[.string ⟨#[]⟩, .string ⟨#[]⟩] 24)).alloc (.cells #[txt l, txt h] 24)) l h := ⟨by go_simp, by go_simp, by go_simp, by go_simp⟩
        have E : Ext w ((((w.alloc (.cells #[txt l, txt h] 24)).alloc (.cells #[txt m, txt k] 24)).alloc (.cells #[.string ⟨#[]⟩, .string ⟨#[]⟩] 24)).alloc (.cells #[txt l, txt h] 24)) := extA
        go_enter Tryz.func85, Tryz.ntmps85
        go_wp2_with fail
        obtain ⟨ob, hob⟩ : ∃ ob, ob = w.heap.size + 1 + 1 + 1 := ⟨_, rfl⟩
        have n0 : w.heap.size ≠ ob := by omega
        have n1 : w.heap.size + 1 ≠ ob := by omega
        have n2 : w.heap.size + 1 + 1 ≠ ob := by omega
        have hwb : w.heap.size ≤ ob := by omega
        rw [← hob] at Y ⊢
        generalize ((((w.alloc (.cells #[txt l, txt h] 24)).alloc (.cells #[txt m, txt k] 24)).alloc (.cells #[.string ⟨#[]⟩, .string ⟨#[]⟩] 24)).alloc (.cells #[txt l, txt h] 24)) = w4 at Y E X P Q ⊢
        clear hob
        have hh := HO1.out w4
        clear HO1
        refine hh.mono ?_
        clear hh
        rintro e w5 ⟨rfl, hE⟩
        have P5 := Lib.hid ((P).ext hE); have Q5 := Lib.hid ((Q).ext hE); have X5 := Lib.hid ((X).ext hE); have Y5 := Lib.hid ((Y).ext hE); obtain ⟨c0, c1, _, _⟩ := P5.out; obtain ⟨c2, c3, _, _⟩ := Q5.out; obtain ⟨d0, d1, g0, g1⟩ := X5.out; obtain ⟨y0, y1, p0, p1⟩ := Y5.out
        replace E := E.trans hE
        clear P Q X Y hE
        go_wp2_with fail
        clear c0 c1 c2 c3 d0 d1 g0 g1 y0 y1 p0 p1
        have P := P5.out
        have Q := Q5.out
        have X := X5.out
        have Y := Y5.out
        clear P5 Q5 X5 Y5
        go_wp2_with (go_at_call 72; have hh := HO2; clear HO2; (refine (hh.out _).mono ?_); clear hh; rintro e w6 ⟨rfl, hE⟩; have P5 := Lib.hid ((P).ext hE); have Q5 := Lib.hid ((Q).ext hE); have X5 := Lib.hid ((X).ext hE); have Y5 := Lib.hid ((Y).ext hE); obtain ⟨c0, c1, _, _⟩ := P5.out; obtain ⟨c2, c3, _, _⟩ := Q5.out; obtain ⟨d0, d1, g0, g1⟩ := X5.out; obtain ⟨y0, y1, p0, p1⟩ := Y5.out)
        replace E := E.trans hE
        clear P Q X Y hE c0 c1 c2 c3 d0 d1 g0 g1 y0 y1 p0 p1
        have P := P5.out.other (o := 1) (v := txt k) n0
        have Q := Q5.out.other (o := 1) (v := txt k) n1
        have X := X5.out.other (o := 1) (v := txt k) n2
        have Y := Y5.out.set1 k
        replace E := E.set hwb (o := 1) (txt k)
        clear P5 Q5 X5 Y5
        go_wp2_with (go_at_call 72; (refine (HO4.out _).mono ?_); rintro e w7 ⟨rfl, hE⟩; have P5 := Lib.hid ((P).ext hE); have Q5 := Lib.hid ((Q).ext hE); have X5 := Lib.hid ((X).ext hE); have Y5 := Lib.hid ((Y).ext hE); obtain ⟨c0, c1, _, _⟩ := P5.out; obtain ⟨c2, c3, _, _⟩ := Q5.out; obtain ⟨d0, d1, g0, g1⟩ := X5.out; obtain ⟨y0, y1, p0, p1⟩ := Y5.out)
        replace E := E.trans hE
        refine bodyPost_ret (v := .tuple #[.agg #[txt [], txt []], .bool false]) (by rw [results_cell_tmp1 rfl]; go_simp) rfl ?_
        exact ⟨by first | (rw [HRX.out]; done) | (rw [HRX.out]; rfl), extA⟩
      · rw [if_neg h3] at HRX
        have P : EncAt w.heap.size ((((w.alloc (.cells #[txt l, txt h] 24)).alloc (.cells #[txt m, txt k] 24)).alloc (.cells #[.string ⟨#[]⟩, .string ⟨#[]⟩] 24)).alloc (.cells #[txt l, txt h] 24)) l h := ⟨by go_simp, by go_simp, by go_simp, by go_simp⟩
        have Q : EncAt (w.heap.size + 1) ((((w.alloc (.cells #[txt l, txt h] 24)).alloc (.cells #[txt m, txt k] 24)).alloc (.cells #[.string ⟨#[]⟩, .string ⟨#[]⟩] 24)).alloc (.cells #[txt l, txt h] 24)) m k := ⟨by go_simp, by go_simp, by go_simp, by go_simp⟩
        have X : EncAt (w.heap.size + 1 + 1) ((((w.alloc (.cells #[txt l, txt h] 24)).alloc (.cells #[txt m, txt k] 24)).alloc (.cells #[.string ⟨#[]⟩, .string ⟨#[]⟩] 24)).alloc (.cells #[txt l, txt h] 24)) [] [] := ⟨by go_simp, by go_simp, by go_simp, by go_simp⟩
        have Y : EncAt (w.heap.size + 1 + 1 + 1) ((((w.alloc (.cells #[txt l, txt h] 24)).alloc (.cells #[txt m, txt k] 24)).alloc (.cells #[.string ⟨#[]⟩, .string ⟨#[]⟩] 24)).alloc (.cells #[txt l, txt h] 24)) l h := ⟨by go_simp, by go_simp, by go_simp, by go_simp⟩
        have E : Ext w ((((w.alloc (.cells #[txt l, txt h] 24)).alloc (.cells #[txt m, txt k] 24)).alloc (.cells #[.string ⟨#[]⟩, .string ⟨#[]⟩] 24)).alloc (.cells #[txt l, txt h] 24)) := extA
        go_enter Tryz.func85, Tryz.ntmps85
        go_wp2_with fail
        obtain ⟨ob, hob⟩ : ∃ ob, ob = w.heap.size + 1 + 1 + 1 := ⟨_, rfl⟩
        have n0 : w.heap.size ≠ ob := by omega
        have n1 : w.heap.size + 1 ≠ ob := by omega
        have n2 : w.heap.size + 1 + 1 ≠ ob := by omega
        have hwb : w.heap.size ≤ ob := by omega
        rw [← hob] at Y ⊢
        generalize ((((w.alloc (.cells #[txt l, txt h] 24)).alloc (.cells #[txt m, txt k] 24)).alloc (.cells #[.string ⟨#[]⟩, .string ⟨#[]⟩] 24)).alloc (.cells #[txt l, txt h] 24)) = w4 at Y E X P Q ⊢
        clear hob
        have hh := HO1.out w4
        clear HO1
        refine hh.mono ?_
        clear hh
        rintro e w5 ⟨rfl, hE⟩
        have P5 := Lib.hid ((P).ext hE); have Q5 := Lib.hid ((Q).ext hE); have X5 := Lib.hid ((X).ext hE); have Y5 := Lib.hid ((Y).ext hE); obtain ⟨c0, c1, _, _⟩ := P5.out; obtain ⟨c2, c3, _, _⟩ := Q5.out; obtain ⟨d0, d1, g0, g1⟩ := X5.out; obtain ⟨y0, y1, p0, p1⟩ := Y5.out
        replace E := E.trans hE
        clear P Q X Y hE
        go_wp2_with fail
        clear c0 c1 c2 c3 d0 d1 g0 g1 y0 y1 p0 p1
        have P := P5.out
        have Q := Q5.out
        have X := X5.out
        have Y := Y5.out
        clear P5 Q5 X5 Y5
        go_wp2_with (go_at_call 72; have hh := HO2; clear HO2; (refine (hh.out _).mono ?_); clear hh; rintro e w6 ⟨rfl, hE⟩; have P5 := Lib.hid ((P).ext hE); have Q5 := Lib.hid ((Q).ext hE); have X5 := Lib.hid ((X).ext hE); have Y5 := Lib.hid ((Y).ext hE); obtain ⟨c0, c1, _, _⟩ := P5.out; obtain ⟨c2, c3, _, _⟩ := Q5.out; obtain ⟨d0, d1, g0, g1⟩ := X5.out; obtain ⟨y0, y1, p0, p1⟩ := Y5.out)
        replace E := E.trans hE
        clear P Q X Y hE c0 c1 c2 c3 d0 d1 g0 g1 y0 y1 p0 p1
        have P := P5.out.other (o := 1) (v := txt k) n0
        have Q := Q5.out.other (o := 1) (v := txt k) n1
        have X := X5.out.other (o := 1) (v := txt k) n2
        have Y := Y5.out.set1 k
        replace E := E.set hwb (o := 1) (txt k)
        clear P5 Q5 X5 Y5
        go_wp2_with (go_at_call 72; (refine (HO4.out _).mono ?_); rintro e w7 ⟨rfl, hE⟩; have P5 := Lib.hid ((P).ext hE); have Q5 := Lib.hid ((Q).ext hE); have X5 := Lib.hid ((X).ext hE); have Y5 := Lib.hid ((Y).ext hE); obtain ⟨c0, c1, _, _⟩ := P5.out; obtain ⟨c2, c3, _, _⟩ := Q5.out; obtain ⟨d0, d1, g0, g1⟩ := X5.out; obtain ⟨y0, y1, p0, p1⟩ := Y5.out)
        replace E := E.trans hE
        refine bodyPost_ret (v := .tuple #[.agg #[txt l, txt k], .bool true]) (by rw [results_cell_tmp1 rfl]; go_simp) rfl ?_
        exact ⟨by first | (rw [HRX.out]; done) | (rw [HRX.out]; rfl), extA⟩
    · have HRX : Hid (C = if 0 < ordQ l h then (([], []), false) else ((l, h), true)) := HR1.out l h (by rw [if_neg h1]) (by rw [if_neg h2])
      have HO4 := Lib.hid (HO3.out l h (.inl rfl) (.inl rfl))
      clear HR1 HR HO3
      generalize ordQ l h = z3 at HRX HO4
      by_cases h3 : 0 < z3
      · rw [if_pos h3] at HRX
        have P : EncAt w.heap.size ((((w.alloc (.cells #[txt l, txt h] 24)).alloc (.cells #[txt m, txt k] 24)).alloc (.cells #[.string ⟨#[]⟩, .string ⟨#[]⟩] 24)).alloc (.cells #[txt l, txt h] 24)) l h := ⟨by go_simp, by go_simp, by go_simp, by go_simp⟩
        have Q : EncAt (w.heap.size + 1) ((((w.alloc (.cells #[txt l, txt h] 24)).alloc (.cells #[txt m, txt k] 24)).alloc (.cells #[.string ⟨#[]⟩, .string ⟨#[]⟩] 24)).alloc (.cells #[txt l, txt h] 24)) m k := ⟨by go_simp, by go_simp, by go_simp, by go_simp⟩
        have X : EncAt (w.heap.size + 1 + 1) ((((w.alloc (.cells #[txt l, txt h] 24)).alloc (.cells #[txt m, txt k] 24)).alloc (.cells #[.string ⟨#[]⟩, .string ⟨#[]⟩] 24)).alloc (.cells #[txt l, txt h] 24)) [] [] := ⟨by go_simp, by go_simp, by go_simp, by go_simp⟩
        have Y : EncAt (w.heap.size + 1 + 1 + 1) ((((w.alloc (.cells #[txt l, txt h] 24)).alloc (.cells #[txt m, txt k] 24)).alloc (.cells #[.string ⟨#[]⟩, .string ⟨#[]⟩] 24)).alloc (.cells #[txt l, txt h] 24)) l h := ⟨by go_simp, by go_simp, by go_simp, by go_simp⟩
        have E : Ext w ((((w.alloc (.cells #[txt l, txt h] 24)).alloc (.cells #[txt m, txt k] 24)).alloc (.cells #[.string ⟨#[]⟩, .string ⟨#[]⟩] 24)).alloc (.cells #[txt l, txt h] 24)) := extA
        go_enter Tryz.func85, Tryz.ntmps85
        go_wp2_with fail
        obtain ⟨ob, hob⟩ : ∃ ob, ob = w.heap.size + 1 + 1 + 1 := ⟨_, rfl⟩
        have n0 : w.heap.size ≠ ob := by omega
        have n1 : w.heap.size + 1 ≠ ob := by omega
        have n2 : w.heap.size + 1 + 1 ≠ ob := by omega
        have hwb : w.heap.size ≤ ob := by omega
        rw [← hob] at Y ⊢
        generalize ((((w.alloc (.cells #[txt l, txt h] 24)).alloc (.cells #[txt m, txt k] 24)).alloc (.cells #[.string ⟨#[]⟩, .string ⟨#[]⟩] 24)).alloc (.cells #[txt l, txt h] 24)) = w4 at Y E X P Q ⊢
        clear hob
        have hh := HO1.out w4
        clear HO1
        refine hh.mono ?_
        clear hh
        rintro e w5 ⟨rfl, hE⟩
        have P5 := Lib.hid ((P).ext hE); have Q5 := Lib.hid ((Q).ext hE); have X5 := Lib.hid ((X).ext hE); have Y5 := Lib.hid ((Y).ext hE); obtain ⟨c0, c1, _, _⟩ := P5.out; obtain ⟨c2, c3, _, _⟩ := Q5.out; obtain ⟨d0, d1, g0, g1⟩ := X5.out; obtain ⟨y0, y1, p0, p1⟩ := Y5.out
        replace E := E.trans hE
        clear P Q X Y hE
        go_wp2_with fail
        clear c0 c1 c2 c3 d0 d1 g0 g1 y0 y1 p0 p1
        have P := P5.out
        have Q := Q5.out
        have X := X5.out
        have Y := Y5.out
        clear P5 Q5 X5 Y5
        go_wp2_with (go_at_call 72; have hh := HO2; clear HO2; (refine (hh.out _).mono ?_); clear hh; rintro e w6 ⟨rfl, hE⟩; have P5 := Lib.hid ((P).ext hE); have Q5 := Lib.hid ((Q).ext hE); have X5 := Lib.hid ((X).ext hE); have Y5 := Lib.hid ((Y).ext hE); obtain ⟨c0, c1, _, _⟩ := P5.out; obtain ⟨c2, c3, _, _⟩ := Q5.out; obtain ⟨d0, d1, g0, g1⟩ := X5.out; obtain ⟨y0, y1, p0, p1⟩ := Y5.out)
        replace E := E.trans hE
        clear P Q X Y hE c0 c1 c2 c3 d0 d1 g0 g1 y0 y1 p0 p1
        have P := P5.out
        have Q := Q5.out
        have X := X5.out
        have Y := Y5.out
        clear P5 Q5 X5 Y5
        go_wp2_with (go_at_call 72; (refine (HO4.out _).mono ?_); rintro e w7 ⟨rfl, hE⟩; have P5 := Lib.hid ((P).ext hE); have Q5 := Lib.hid ((Q).ext hE); have X5 := Lib.hid ((X).ext hE); have Y5 := Lib.hid ((Y).ext hE); obtain ⟨c0, c1, _, _⟩ := P5.out; obtain ⟨c2, c3, _, _⟩ := Q5.out; obtain ⟨d0, d1, g0, g1⟩ := X5.out; obtain ⟨y0, y1, p0, p1⟩ := Y5.out)
        replace E := E.trans hE
        refine bodyPost_ret (v := .tuple #[.agg #[txt [], txt []], .bool false]) (by rw [results_cell_tmp1 rfl]; go_simp) rfl ?_
        exact ⟨by first | (rw [HRX.out]; done) | (rw [HRX.out]; rfl), extA⟩
      · rw [if_neg h3] at HRX
        have P : EncAt w.heap.size ((((w.alloc (.cells #[txt l, txt h] 24)).alloc (.cells #[txt m, txt k] 24)).alloc (.cells #[.string ⟨#[]⟩, .string ⟨#[]⟩] 24)).alloc (.cells #[txt l, txt h] 24)) l h := ⟨by go_simp, by go_simp, by go_simp, by go_simp⟩
        have Q : EncAt (w.heap.size + 1) ((((w.alloc (.cells #[txt l, txt h] 24)).alloc (.cells #[txt m, txt k] 24)).alloc (.cells #[.string ⟨#[]⟩, .string ⟨#[]⟩] 24)).alloc (.cells #[txt l, txt h] 24)) m k := ⟨by go_simp, by go_simp, by go_simp, by go_simp⟩
        have X : EncAt (w.heap.size + 1 + 1) ((((w.alloc (.cells #[txt l, txt h] 24)).alloc (.cells #[txt m, txt k] 24)).alloc (.cells #[.string ⟨#[]⟩, .string ⟨#[]⟩] 24)).alloc (.cells #[txt l, txt h] 24)) [] [] := ⟨by go_simp, by go_simp, by go_simp, by go_simp⟩
        have Y : EncAt (w.heap.size + 1 + 1 + 1) ((((w.alloc (.cells #[txt l, txt h] 24)).alloc (.cells #[txt m, txt k] 24)).alloc (.cells #[.string ⟨#[]⟩, .string ⟨#[]⟩] 24)).alloc (.cells #[txt l, txt h] 24)) l h := ⟨by go_simp, by go_simp, by go_simp, by go_simp⟩
        have E : Ext w ((((w.alloc (.cells #[txt l, txt h] 24)).alloc (.cells #[txt m, txt k] 24)).alloc (.cells #[.string ⟨#[]⟩, .string ⟨#[]⟩] 24)).alloc (.cells #[txt l, txt h] 24)) := extA
        go_enter Tryz.func85, Tryz.ntmps85
        go_wp2_with fail
        obtain ⟨ob, hob⟩ : ∃ ob, ob = w.heap.size + 1 + 1 + 1 := ⟨_, rfl⟩
        have n0 : w.heap.size ≠ ob := by omega
        have n1 : w.heap.size + 1 ≠ ob := by omega
        have n2 : w.heap.size + 1 + 1 ≠ ob := by omega
        have hwb : w.heap.size ≤ ob := by omega
        rw [← hob] at Y ⊢
        generalize ((((w.alloc (.cells #[txt l, txt h] 24)).alloc (.cells #[txt m, txt k] 24)).alloc (.cells #[.string ⟨#[]⟩, .string ⟨#[]⟩] 24)).alloc (.cells #[txt l, txt h] 24)) = w4 at Y E X P Q ⊢
        clear hob
        have hh := HO1.out w4
        clear HO1
        refine hh.mono ?_
        clear hh
        rintro e w5 ⟨rfl, hE⟩
        have P5 := Lib.hid ((P).ext hE); have Q5 := Lib.hid ((Q).ext hE); have X5 := Lib.hid ((X).ext hE); have Y5 := Lib.hid ((Y).ext hE); obtain ⟨c0, c1, _, _⟩ := P5.out; obtain ⟨c2, c3, _, _⟩ := Q5.out; obtain ⟨d0, d1, g0, g1⟩ := X5.out; obtain ⟨y0, y1, p0, p1⟩ := Y5.out
        replace E := E.trans hE
        clear P Q X Y hE
        go_wp2_with fail
        clear c0 c1 c2 c3 d0 d1 g0 g1 y0 y1 p0 p1
        have P := P5.out
        have Q := Q5.out
        have X := X5.out
        have Y := Y5.out
        clear P5 Q5 X5 Y5
        go_wp2_with (go_at_call 72; have hh := HO2; clear HO2; (refine (hh.out _).mono ?_); clear hh; rintro e w6 ⟨rfl, hE⟩; have P5 := Lib.hid ((P).ext hE); have Q5 := Lib.hid ((Q).ext hE); have X5 := Lib.hid ((X).ext hE); have Y5 := Lib.hid ((Y).ext hE); obtain ⟨c0, c1, _, _⟩ := P5.out; obtain ⟨c2, c3, _, _⟩ := Q5.out; obtain ⟨d0, d1, g0, g1⟩ := X5.out; obtain ⟨y0, y1, p0, p1⟩ := Y5.out)
        replace E := E.trans hE
        clear P Q X Y hE c0 c1 c2 c3 d0 d1 g0 g1 y0 y1 p0 p1
        have P := P5.out
        have Q := Q5.out
        have X := X5.out
        have Y := Y5.out
        clear P5 Q5 X5 Y5
        go_wp2_with (go_at_call 72; (refine (HO4.out _).mono ?_); rintro e w7 ⟨rfl, hE⟩; have P5 := Lib.hid ((P).ext hE); have Q5 := Lib.hid ((Q).ext hE); have X5 := Lib.hid ((X).ext hE); have Y5 := Lib.hid ((Y).ext hE); obtain ⟨c0, c1, _, _⟩ := P5.out; obtain ⟨c2, c3, _, _⟩ := Q5.out; obtain ⟨d0, d1, g0, g1⟩ := X5.out; obtain ⟨y0, y1, p0, p1⟩ := Y5.out)
        replace E := E.trans hE
        refine bodyPost_ret (v := .tuple #[.agg #[txt l, txt h], .bool true]) (by rw [results_cell_tmp1 rfl]; go_simp) rfl ?_
        exact ⟨by first | (rw [HRX.out]; done) | (rw [HRX.out]; rfl), extA⟩
set_option maxHeartbeats 8000000 in
set_option maxRecDepth 100000 in
theorem rMeet_any (a b : Enc) (w : World) (hl : LenE a) (hm : LenE b) : Calls Tryz.prog 29 #[encV a, encV b] w (MeetP (meetE a b) w) := by
  have HB := Lib.hid (fun W => rBoth2_any a b W hl hm)
  unfold MeetP
  obtain ⟨C, hC⟩ : ∃ C, C = meetE a b := ⟨_, rfl⟩
  rw [← hC]
  have hne0 : (((0 : Nat) : Int) != 0) = false := rfl
  by_cases e0 : bothEE a b = 0
  rotate_left
  · have HR : Hid (C = (([], []), false, bothEE a b)) := by show _ = _; rw [hC]; unfold meetE; rw [if_pos e0]
    have hne : (((bothEE a b : Nat) : Int) != 0) = true := by rw [bne_iff_ne]; omega
    clear e0 hC hl hm
    generalize bothEE a b = n at *
    obtain ⟨l, h⟩ := a
    obtain ⟨m, k⟩ := b
    dsimp only [encV] at HB ⊢
    have P : EncAt w.heap.size (((w.alloc (.cells #[txt l, txt h] 24)).alloc (.cells #[txt m, txt k] 24)).alloc (.cells #[.string ⟨#[]⟩, .string ⟨#[]⟩] 24)) l h := ⟨by go_simp, by go_simp, by go_simp, by go_simp⟩
    have Q : EncAt (w.heap.size + 1) (((w.alloc (.cells #[txt l, txt h] 24)).alloc (.cells #[txt m, txt k] 24)).alloc (.cells #[.string ⟨#[]⟩, .string ⟨#[]⟩] 24)) m k := ⟨by go_simp, by go_simp, by go_simp, by go_simp⟩
    have X : EncAt (w.heap.size + 1 + 1) (((w.alloc (.cells #[txt l, txt h] 24)).alloc (.cells #[txt m, txt k] 24)).alloc (.cells #[.string ⟨#[]⟩, .string ⟨#[]⟩] 24)) [] [] := ⟨by go_simp, by go_simp, by go_simp, by go_simp⟩
    go_enter Tryz.func29, Tryz.ntmps29
    go_wp2_with (go_at_call 80; (refine (HB.out _).mono ?_); rintro e w3 ⟨rfl, hE⟩; obtain ⟨c0, c1, _, _⟩ := P.ext hE; obtain ⟨c2, c3, _, _⟩ := Q.ext hE; have X5 := Lib.hid (X.ext hE); obtain ⟨d0, d1, g0, g1⟩ := X5.out)
    refine bodyPost_ret (v := .tuple #[.agg #[txt [], txt []], .bool false, .int .i64 (n : Nat)]) (by rw [results_cell_tmp_tmp rfl]; go_simp) rfl ?_
    exact ⟨by first | (rw [HR.out]; done) | (rw [HR.out]; rfl), extA⟩
  obtain ⟨ea, eb⟩ := bothEE_two e0
  obtain ⟨f1, f2, _⟩ := enc_right ea
  obtain ⟨f3, f4, _⟩ := enc_right eb
  have HCM := Lib.hid (fun W => rCommon_any a b W hl hm ⟨f1, f2, f3, f4⟩)
  have HR : Hid (C = ((commonE a b).1, (commonE a b).2, 0)) := by show _ = _; rw [hC]; unfold meetE; rw [if_neg (not_not_intro e0)]
  rw [e0] at HB
  unfold CommonP at HCM
  clear e0 ea eb f1 f2 f3 f4 hl hm hC
  generalize commonE a b = K at *
  obtain ⟨⟨x, y⟩, B⟩ := K
  obtain ⟨l, h⟩ := a
  obtain ⟨m, k⟩ := b
  dsimp only [encV] at HB HCM HR ⊢
  have P : EncAt w.heap.size (((w.alloc (.cells #[txt l, txt h] 24)).alloc (.cells #[txt m, txt k] 24)).alloc (.cells #[.string ⟨#[]⟩, .string ⟨#[]⟩] 24)) l h := ⟨by go_simp, by go_simp, by go_simp, by go_simp⟩
  have Q : EncAt (w.heap.size + 1) (((w.alloc (.cells #[txt l, txt h] 24)).alloc (.cells #[txt m, txt k] 24)).alloc (.cells #[.string ⟨#[]⟩, .string ⟨#[]⟩] 24)) m k := ⟨by go_simp, by go_simp, by go_simp, by go_simp⟩
  have X : EncAt (w.heap.size + 1 + 1) (((w.alloc (.cells #[txt l, txt h] 24)).alloc (.cells #[txt m, txt k] 24)).alloc (.cells #[.string ⟨#[]⟩, .string ⟨#[]⟩] 24)) [] [] := ⟨by go_simp, by go_simp, by go_simp, by go_simp⟩
  go_enter Tryz.func29, Tryz.ntmps29
  go_wp2_with (go_at_call 80; (refine (HB.out _).mono ?_); rintro e w3 ⟨rfl, hE⟩; obtain ⟨c0, c1, _, _⟩ := P.ext hE; obtain ⟨c2, c3, _, _⟩ := Q.ext hE; have X5 := Lib.hid (X.ext hE); obtain ⟨d0, d1, g0, g1⟩ := X5.out)
  clear P Q X
  go_wp2_with (go_at_call 85; (refine (HCM.out _).mono ?_); rintro e w4 ⟨rfl, hE2⟩; obtain ⟨d0, d1, g0, g1⟩ := X5.out.ext hE2; have b2 := cell_lt d0; dsimp only at b2)
  refine bodyPost_ret (v := .tuple #[.agg #[txt x, txt y], .bool B, .int .i64 0]) (by rw [results_cell_tmp_tmp rfl]; go_simp) rfl ?_
  exact ⟨by first | (rw [HR.out]; done) | (rw [HR.out]; rfl), extA⟩
end Go.Proofs.YtdejgaiocjfhjaaGreatDoor
namespace Go.Proofs.YtdejgaiocjfhjaaGreatDoor
open Go.RowKit
set_option maxHeartbeats 2000000 in
theorem eBelow_any (a : Txt) (w : World) : Calls Tryz.prog 112 #[txt a] w fun e w' => e = .returned (.bool (negS a)) ∧ w' = w := by
  have HP : Hid (∀ W, Calls Tryz.prog 145 #[txt a, txt [45]] W fun e w' => e = .returned (.bool (negS a)) ∧ w' = W) := fun W => by
    refine (Tryz.strings_HasPrefix ⟨a.toArray⟩ ⟨#[45]⟩ W).mono fun e w' h => ?_
    obtain ⟨h1, h2⟩ := h
    refine ⟨?_, h2⟩
    have e1 : ((⟨a.toArray⟩ : ByteArray).data.toList) = a := rfl
    have e2 : ((⟨#[45]⟩ : ByteArray).data.toList) = [45] := rfl
    rw [e1, e2, (trimP_bare a).2] at h1
    exact h1
  go_enter Tryz.func112, Tryz.ntmps112
  go_wp2_with (go_at_call 145; (refine (HP.out _).mono ?_); rintro e w' ⟨rfl, rfl⟩)
  go_ret
  exact ⟨rfl, rfl⟩
def zeroE (a : Enc) : Bool := (negS a.1 || a.1 == [48]) && !negS a.2
set_option maxHeartbeats 4000000 in
set_option maxRecDepth 100000 in
theorem eZero_any (a : Enc) (w : World) : Calls Tryz.prog 70 #[encV a] w fun e w' => e = .returned (.bool (zeroE a)) ∧ Ext w w' := by
  obtain ⟨l, h⟩ := a
  have HL := Lib.hid (fun W => eBelow_any l W)
  have HH := Lib.hid (fun W => eBelow_any h W)
  unfold zeroE
  dsimp only [encV]
  obtain ⟨B, hB⟩ : ∃ B, B = (l == [48]) := ⟨_, rfl⟩
  rw [← hB]
  have hlb := hB.symm
  clear hB
  generalize negS l = n1 at *
  generalize negS h = n2 at *
  cases n1 <;> cases n2 <;> cases B
  all_goals
    go_enter Tryz.func70, Tryz.ntmps70
    go_wp2_with (go_at_call 112; have hh := HL; clear HL; (refine (hh.out _).mono ?_); clear hh; rintro e w' ⟨rfl, rfl⟩)
    first
      | (go_wp2_with (go_at_call 112; have hh := HH; clear HH; (refine (hh.out _).mono ?_); clear hh; rintro e w' ⟨rfl, rfl⟩); go_ret; exact ⟨rfl, extA⟩)
      | (go_ret; exact ⟨rfl, extA⟩)
set_option maxHeartbeats 2000000 in
theorem ePi_any (w : World) : Calls Tryz.prog 59 #[] w fun e w' => e = .returned (encV ([50, 50, 51, 47, 55, 49], [50, 50, 47, 55])) ∧ Ext w w' := by
  go_enter Tryz.func59, Tryz.ntmps59
  go_wp2
  refine bodyPost_ret (v := .agg #[txt [50, 50, 51, 47, 55, 49], txt [50, 50, 47, 55]]) (by rw [results_cell1 rfl]; go_simp) rfl ?_
  exact ⟨rfl, extA⟩
end Go.Proofs.YtdejgaiocjfhjaaGreatDoor
namespace Go.Proofs.YtdejgaiocjfhjaaGreatDoor
open Go.RowKit
theorem ends_bad1 {r s : Res} (h : r.2 ≠ 0) : endsR r s = (([], []), r.2) := by unfold endsR badEnc; rw [if_pos h]
theorem ends_bad2 {r s : Res} (h : r.2 = 0) (k : s.2 ≠ 0) : endsR r s = (([], []), s.2) := by unfold endsR badEnc; rw [if_neg (not_not_intro h), if_pos k]
theorem ends_good {r s : Res} (h : r.2 = 0) (k : s.2 = 0) : endsR r s = ((r.1, s.1), 0) := by unfold endsR; rw [if_neg (not_not_intro h), if_neg (not_not_intro k)]
set_option maxHeartbeats 8000000 in
set_option maxRecDepth 100000 in
theorem eEnds_any (f : Nat) (a b c d : Txt) (r s : Res) (w : World) (heg : ∀ args w, (callFunc f args).run Tryz.prog w = .ok (.enter f args) w)
    (h1 : ∀ W, Ext w W → Calls Tryz.prog f #[txt a, txt b] W (ResP r W)) (h2 : ∀ W, Ext w W → Calls Tryz.prog f #[txt c, txt d] W (ResP s W)) :
    Calls Tryz.prog 71 #[.func (.func f) #[] #[], .agg #[txt a, txt b, txt c, txt d]] w (EncP (endsR r s) w) := by
  have H1 := Lib.hid h1
  have H2 := Lib.hid h2
  unfold ResP at H1 H2
  unfold EncP
  clear h1 h2
  have hi0 : ∀ W, (Instr.index 95 (.agg #[txt a, txt b, txt c, txt d]) (.int .i64 0)).run Tryz.prog W = .ok (.agg #[txt a, txt b]) W := fun W => by simp [Instr.index, go_sem]
  have hi1 : ∀ W, (Instr.index 95 (.agg #[txt a, txt b, txt c, txt d]) (.int .i64 1)).run Tryz.prog W = .ok (.agg #[txt c, txt d]) W := fun W => by simp [Instr.index, go_sem]
  obtain ⟨r1, r2⟩ := r
  obtain ⟨s1, s2⟩ := s
  dsimp only at H1 H2
  obtain ⟨C, hC⟩ : ∃ C, C = endsR (r1, r2) (s1, s2) := ⟨_, rfl⟩
  rw [← hC]
  by_cases hr : r2 = 0
  rotate_left
  · have HR : Hid (C = (([], []), r2)) := by show _ = _; rw [hC]; exact ends_bad1 hr
    have hne : ((r2 : Int) != 0) = true := by rw [bne_iff_ne]; omega
    clear hr hC
    have X : EncAt (w.heap.size + 1) ((((w.alloc (.cells #[txt a, txt b, txt c, txt d] 95)).alloc (.cells #[.string ⟨#[]⟩, .string ⟨#[]⟩] 24)).alloc (.cells #[.string ⟨#[]⟩, .string ⟨#[]⟩] 93)).alloc (.cells #[txt a, txt b] 93)) [] [] := ⟨by go_simp, by go_simp, by go_simp, by go_simp⟩
    have O : EncAt (w.heap.size + 1 + 1) ((((w.alloc (.cells #[txt a, txt b, txt c, txt d] 95)).alloc (.cells #[.string ⟨#[]⟩, .string ⟨#[]⟩] 24)).alloc (.cells #[.string ⟨#[]⟩, .string ⟨#[]⟩] 93)).alloc (.cells #[txt a, txt b] 93)) [] [] := ⟨by go_simp, by go_simp, by go_simp, by go_simp⟩
    have EV : Ext w ((((w.alloc (.cells #[txt a, txt b, txt c, txt d] 95)).alloc (.cells #[.string ⟨#[]⟩, .string ⟨#[]⟩] 24)).alloc (.cells #[.string ⟨#[]⟩, .string ⟨#[]⟩] 93)).alloc (.cells #[txt a, txt b] 93)) := extA
    go_enter Tryz.func71, Tryz.ntmps71
    go_wp2
    refine wp_loop_rounds 3 ?_
    rw [rounds_succ]
    go_wp2_with fail
    generalize ((((w.alloc (.cells #[txt a, txt b, txt c, txt d] 95)).alloc (.cells #[.string ⟨#[]⟩, .string ⟨#[]⟩] 24)).alloc (.cells #[.string ⟨#[]⟩, .string ⟨#[]⟩] 93)).alloc (.cells #[txt a, txt b] 93)) = w4 at X O EV ⊢
    refine (H1.out _ EV).mono ?_
    rintro e w5 ⟨rfl, hE⟩
    have X5 := X.ext hE
    have O5 := O.ext hE
    have E := EV.trans hE
    clear X O EV hE
    obtain ⟨d0, d1, g0, g1⟩ := X5
    obtain ⟨y0, y1, p0, p1⟩ := O5
    go_wp2_with fail
    refine bodyPost_ret (v := .tuple #[.agg #[txt [], txt []], .int .i64 (r2 : Nat)]) (by rw [results_cell_tmp1 rfl]; go_simp) rfl ?_
    exact ⟨by first | (rw [HR.out]; done) | (rw [HR.out]; rfl), extA⟩
  subst hr
  have hne0 : (((0 : Nat) : Int) != 0) = false := rfl
  by_cases hs : s2 = 0
  rotate_left
  · have HR : Hid (C = (([], []), s2)) := by show _ = _; rw [hC]; exact ends_bad2 rfl hs
    have hne : ((s2 : Int) != 0) = true := by rw [bne_iff_ne]; omega
    clear hs hC
    have X : EncAt (w.heap.size + 1) ((((w.alloc (.cells #[txt a, txt b, txt c, txt d] 95)).alloc (.cells #[.string ⟨#[]⟩, .string ⟨#[]⟩] 24)).alloc (.cells #[.string ⟨#[]⟩, .string ⟨#[]⟩] 93)).alloc (.cells #[txt a, txt b] 93)) [] [] := ⟨by go_simp, by go_simp, by go_simp, by go_simp⟩
    have O : EncAt (w.heap.size + 1 + 1) ((((w.alloc (.cells #[txt a, txt b, txt c, txt d] 95)).alloc (.cells #[.string ⟨#[]⟩, .string ⟨#[]⟩] 24)).alloc (.cells #[.string ⟨#[]⟩, .string ⟨#[]⟩] 93)).alloc (.cells #[txt a, txt b] 93)) [] [] := ⟨by go_simp, by go_simp, by go_simp, by go_simp⟩
    have EV : Ext w ((((w.alloc (.cells #[txt a, txt b, txt c, txt d] 95)).alloc (.cells #[.string ⟨#[]⟩, .string ⟨#[]⟩] 24)).alloc (.cells #[.string ⟨#[]⟩, .string ⟨#[]⟩] 93)).alloc (.cells #[txt a, txt b] 93)) := extA
    go_enter Tryz.func71, Tryz.ntmps71
    go_wp2
    refine wp_loop_rounds 3 ?_
    rw [rounds_succ]
    go_wp2_with fail
    generalize ((((w.alloc (.cells #[txt a, txt b, txt c, txt d] 95)).alloc (.cells #[.string ⟨#[]⟩, .string ⟨#[]⟩] 24)).alloc (.cells #[.string ⟨#[]⟩, .string ⟨#[]⟩] 93)).alloc (.cells #[txt a, txt b] 93)) = w4 at X O EV ⊢
    refine (H1.out _ EV).mono ?_
    rintro e w5 ⟨rfl, hE⟩
    have X5 := X.ext hE
    have O5 := O.ext hE
    have E := EV.trans hE
    clear X O EV hE
    obtain ⟨d0, d1, g0, g1⟩ := X5
    obtain ⟨y0, y1, p0, p1⟩ := O5
    have x0 := d0
    have x1 := d1
    have x2 := g0
    have x3 := g1
    have z0 := y0
    have z1 := y1
    have z2 := p0
    have z3 := p1
    go_wp2_with fail
    rw [rounds_succ]
    go_wp2_with fail
    clear d0 d1 g0 g1 y0 y1 p0 p1
    have X6 := (EncAt.mk x0 x1 x2 x3).other (c := w.heap.size + 1 + 1) (o := 0) (v := txt r1) (by omega)
    have O6 := (EncAt.mk z0 z1 z2 z3).set0 r1
    have E6 : Ext w (w5.setCell ⟨w.heap.size + 1 + 1, 0, none⟩ (txt r1)) := E.set (by omega) _
    have hA : Ext (w5.setCell ⟨w.heap.size + 1 + 1, 0, none⟩ (txt r1)) ((w5.setCell ⟨w.heap.size + 1 + 1, 0, none⟩ (txt r1)).alloc (.cells #[txt c, txt d] 93)) := extA
    have X7 := X6.ext hA
    have O7 := O6.ext hA
    have E7 := E6.trans hA
    generalize ((w5.setCell ⟨w.heap.size + 1 + 1, 0, none⟩ (txt r1)).alloc (.cells #[txt c, txt d] 93)) = w6 at X7 O7 E7 ⊢
    clear hA X6 O6 E6 E
    refine (H2.out _ E7).mono ?_
    rintro e w7 ⟨rfl, hE⟩
    have E := E7.trans hE
    obtain ⟨d0, d1, g0, g1⟩ := X7.ext hE
    obtain ⟨y0, y1, p0, p1⟩ := O7.ext hE
    clear X7 O7 E7 hE
    go_wp2_with fail
    refine bodyPost_ret (v := .tuple #[.agg #[txt [], txt []], .int .i64 (s2 : Nat)]) (by rw [results_cell_tmp1 rfl]; go_simp) rfl ?_
    exact ⟨by first | (rw [HR.out]; done) | (rw [HR.out]; rfl), extA⟩
  subst hs
  have HR : Hid (C = ((r1, s1), 0)) := by show _ = _; rw [hC]; exact ends_good rfl rfl
  clear hC
  have X : EncAt (w.heap.size + 1) ((((w.alloc (.cells #[txt a, txt b, txt c, txt d] 95)).alloc (.cells #[.string ⟨#[]⟩, .string ⟨#[]⟩] 24)).alloc (.cells #[.string ⟨#[]⟩, .string ⟨#[]⟩] 93)).alloc (.cells #[txt a, txt b] 93)) [] [] := ⟨by go_simp, by go_simp, by go_simp, by go_simp⟩
  have O : EncAt (w.heap.size + 1 + 1) ((((w.alloc (.cells #[txt a, txt b, txt c, txt d] 95)).alloc (.cells #[.string ⟨#[]⟩, .string ⟨#[]⟩] 24)).alloc (.cells #[.string ⟨#[]⟩, .string ⟨#[]⟩] 93)).alloc (.cells #[txt a, txt b] 93)) [] [] := ⟨by go_simp, by go_simp, by go_simp, by go_simp⟩
  have EV : Ext w ((((w.alloc (.cells #[txt a, txt b, txt c, txt d] 95)).alloc (.cells #[.string ⟨#[]⟩, .string ⟨#[]⟩] 24)).alloc (.cells #[.string ⟨#[]⟩, .string ⟨#[]⟩] 93)).alloc (.cells #[txt a, txt b] 93)) := extA
  go_enter Tryz.func71, Tryz.ntmps71
  go_wp2
  refine wp_loop_rounds 3 ?_
  rw [rounds_succ]
  go_wp2_with fail
  generalize ((((w.alloc (.cells #[txt a, txt b, txt c, txt d] 95)).alloc (.cells #[.string ⟨#[]⟩, .string ⟨#[]⟩] 24)).alloc (.cells #[.string ⟨#[]⟩, .string ⟨#[]⟩] 93)).alloc (.cells #[txt a, txt b] 93)) = w4 at X O EV ⊢
  refine (H1.out _ EV).mono ?_
  rintro e w5 ⟨rfl, hE⟩
  have X5 := X.ext hE
  have O5 := O.ext hE
  have E := EV.trans hE
  clear X O EV hE
  obtain ⟨d0, d1, g0, g1⟩ := X5
  obtain ⟨y0, y1, p0, p1⟩ := O5
  have x0 := d0
  have x1 := d1
  have x2 := g0
  have x3 := g1
  have z0 := y0
  have z1 := y1
  have z2 := p0
  have z3 := p1
  go_wp2_with fail
  rw [rounds_succ]
  go_wp2_with fail
  clear d0 d1 g0 g1 y0 y1 p0 p1
  have X6 := (EncAt.mk x0 x1 x2 x3).other (c := w.heap.size + 1 + 1) (o := 0) (v := txt r1) (by omega)
  have O6 := (EncAt.mk z0 z1 z2 z3).set0 r1
  have E6 : Ext w (w5.setCell ⟨w.heap.size + 1 + 1, 0, none⟩ (txt r1)) := E.set (by omega) _
  have hA : Ext (w5.setCell ⟨w.heap.size + 1 + 1, 0, none⟩ (txt r1)) ((w5.setCell ⟨w.heap.size + 1 + 1, 0, none⟩ (txt r1)).alloc (.cells #[txt c, txt d] 93)) := extA
  have X7 := X6.ext hA
  have O7 := O6.ext hA
  have E7 := E6.trans hA
  generalize ((w5.setCell ⟨w.heap.size + 1 + 1, 0, none⟩ (txt r1)).alloc (.cells #[txt c, txt d] 93)) = w6 at X7 O7 E7 ⊢
  clear hA X6 O6 E6 E
  refine (H2.out _ E7).mono ?_
  rintro e w7 ⟨rfl, hE⟩
  have E := E7.trans hE
  obtain ⟨d0, d1, g0, g1⟩ := X7.ext hE
  obtain ⟨y0, y1, p0, p1⟩ := O7.ext hE
  clear X7 O7 E7 hE
  go_wp2_with fail
  rw [rounds_succ]
  go_wp2_with fail
  refine bodyPost_ret (v := .tuple #[.agg #[txt r1, txt s1], .int .i64 0]) (by rw [results_cell_tmp1 rfl]; go_simp) rfl ?_
  exact ⟨by first | (rw [HR.out]; done) | (rw [HR.out]; rfl), extA⟩
end Go.Proofs.YtdejgaiocjfhjaaGreatDoor
namespace Go.Proofs.YtdejgaiocjfhjaaGreatDoor
open Go.RowKit
theorem enters47 : ∀ args w, (callFunc 47 args).run Tryz.prog w = .ok (.enter 47 args) w := enters_of Tryz.func47 (by kernel_rfl) rfl
theorem enters48 : ∀ args w, (callFunc 48 args).run Tryz.prog w = .ok (.enter 48 args) w := enters_of Tryz.func48 (by kernel_rfl) rfl
theorem enters49 : ∀ args w, (callFunc 49 args).run Tryz.prog w = .ok (.enter 49 args) w := enters_of Tryz.func49 (by kernel_rfl) rfl
theorem enters50 : ∀ args w, (callFunc 50 args).run Tryz.prog w = .ok (.enter 50 args) w := enters_of Tryz.func50 (by kernel_rfl) rfl
set_option maxHeartbeats 8000000 in
set_option maxRecDepth 100000 in
theorem eAdd_any (a b : Enc) (w : World) (hG : Glob w) (hl : LenE a) (hm : LenE b) : Calls Tryz.prog 20 #[encV a, encV b] w (EncP (addE a b) w) := by
  have HB := Lib.hid (checked_two a b w hG hl hm)
  have HE := Lib.hid (fun W (h : Ext w W) => eEnds_any 47 a.1 b.1 a.2 b.2 (addS a.1 b.1) (addS a.2 b.2) W enters47
    (fun V g => add_any _ _ V (hG.ext (h.trans g)) hl.1 hm.1) (fun V g => add_any _ _ V (hG.ext (h.trans g)) hl.2 hm.2))
  unfold EncP at HE ⊢
  obtain ⟨C, hC⟩ : ∃ C, C = addE a b := ⟨_, rfl⟩
  rw [← hC]
  have hne0 : (((0 : Nat) : Int) != 0) = false := rfl
  by_cases e0 : bothEE a b = 0
  rotate_left
  · have HR : Hid (C = (([], []), bothEE a b)) := by show _ = _; rw [hC]; unfold addE badEnc; rw [if_pos e0]
    have hne : (((bothEE a b : Nat) : Int) != 0) = true := by rw [bne_iff_ne]; omega
    clear e0 hC hl hm hG HE
    generalize bothEE a b = n at *
    obtain ⟨l, h⟩ := a
    obtain ⟨m, k⟩ := b
    dsimp only [encV] at HB ⊢
    have c0 : ((((w.alloc (.cells #[txt l, txt h] 24)).alloc (.cells #[txt m, txt k] 24)).alloc (.cells #[.string ⟨#[]⟩, .string ⟨#[]⟩] 24)).alloc (.cells #[txt l, txt h, txt m, txt k] 24)).cell? ⟨w.heap.size, 0, none⟩ = some (txt l) := by go_simp
    have c1 : ((((w.alloc (.cells #[txt l, txt h] 24)).alloc (.cells #[txt m, txt k] 24)).alloc (.cells #[.string ⟨#[]⟩, .string ⟨#[]⟩] 24)).alloc (.cells #[txt l, txt h, txt m, txt k] 24)).cell? ⟨w.heap.size, 1, none⟩ = some (txt h) := by go_simp
    have c2 : ((((w.alloc (.cells #[txt l, txt h] 24)).alloc (.cells #[txt m, txt k] 24)).alloc (.cells #[.string ⟨#[]⟩, .string ⟨#[]⟩] 24)).alloc (.cells #[txt l, txt h, txt m, txt k] 24)).cell? ⟨w.heap.size + 1, 0, none⟩ = some (txt m) := by go_simp
    have c3 : ((((w.alloc (.cells #[txt l, txt h] 24)).alloc (.cells #[txt m, txt k] 24)).alloc (.cells #[.string ⟨#[]⟩, .string ⟨#[]⟩] 24)).alloc (.cells #[txt l, txt h, txt m, txt k] 24)).cell? ⟨w.heap.size + 1, 1, none⟩ = some (txt k) := by go_simp
    have X : EncAt (w.heap.size + 1 + 1) ((((w.alloc (.cells #[txt l, txt h] 24)).alloc (.cells #[txt m, txt k] 24)).alloc (.cells #[.string ⟨#[]⟩, .string ⟨#[]⟩] 24)).alloc (.cells #[txt l, txt h, txt m, txt k] 24)) [] [] := ⟨by go_simp, by go_simp, by go_simp, by go_simp⟩
    have hZ : Ext w ((((w.alloc (.cells #[txt l, txt h] 24)).alloc (.cells #[txt m, txt k] 24)).alloc (.cells #[.string ⟨#[]⟩, .string ⟨#[]⟩] 24)).alloc (.cells #[txt l, txt h, txt m, txt k] 24)) := extA
    go_enter Tryz.func20, Tryz.ntmps20
    go_wp2_with (go_at_call 79; (refine (HB.out _ (((w.alloc (.cells #[txt l, txt h] 24)).alloc (.cells #[txt m, txt k] 24)).alloc (.cells #[.string ⟨#[]⟩, .string ⟨#[]⟩] 24)) _ (by simp) rfl extA).mono ?_); rintro e w3 ⟨rfl, hE3⟩; have c0 := hE3.cell c0; have c1 := hE3.cell c1; have c2 := hE3.cell c2; have c3 := hE3.cell c3; have b0 := cell_lt c0; have b1 := cell_lt c2; dsimp only at b0 b1; obtain ⟨d0, d1, g0, g1⟩ := X.ext hE3)
    refine bodyPost_ret (v := .tuple #[.agg #[txt [], txt []], .int .i64 (n : Nat)]) (by rw [results_cell_tmp1 rfl]; go_simp) rfl ?_
    exact ⟨by first | (rw [HR.out]; done) | (rw [HR.out]; rfl), extA⟩
  have HR : Hid (C = endsR (addS a.1 b.1) (addS a.2 b.2)) := by show _ = _; rw [hC]; unfold addE; rw [if_neg (not_not_intro e0)]
  rw [e0] at HB
  clear e0 hl hm hG hC
  generalize endsR (addS a.1 b.1) (addS a.2 b.2) = R at *
  obtain ⟨⟨r1, r2⟩, r3⟩ := R
  obtain ⟨l, h⟩ := a
  obtain ⟨m, k⟩ := b
  dsimp only [encV] at HB HE HR ⊢
  have c0 : ((((w.alloc (.cells #[txt l, txt h] 24)).alloc (.cells #[txt m, txt k] 24)).alloc (.cells #[.string ⟨#[]⟩, .string ⟨#[]⟩] 24)).alloc (.cells #[txt l, txt h, txt m, txt k] 24)).cell? ⟨w.heap.size, 0, none⟩ = some (txt l) := by go_simp
  have c1 : ((((w.alloc (.cells #[txt l, txt h] 24)).alloc (.cells #[txt m, txt k] 24)).alloc (.cells #[.string ⟨#[]⟩, .string ⟨#[]⟩] 24)).alloc (.cells #[txt l, txt h, txt m, txt k] 24)).cell? ⟨w.heap.size, 1, none⟩ = some (txt h) := by go_simp
  have c2 : ((((w.alloc (.cells #[txt l, txt h] 24)).alloc (.cells #[txt m, txt k] 24)).alloc (.cells #[.string ⟨#[]⟩, .string ⟨#[]⟩] 24)).alloc (.cells #[txt l, txt h, txt m, txt k] 24)).cell? ⟨w.heap.size + 1, 0, none⟩ = some (txt m) := by go_simp
  have c3 : ((((w.alloc (.cells #[txt l, txt h] 24)).alloc (.cells #[txt m, txt k] 24)).alloc (.cells #[.string ⟨#[]⟩, .string ⟨#[]⟩] 24)).alloc (.cells #[txt l, txt h, txt m, txt k] 24)).cell? ⟨w.heap.size + 1, 1, none⟩ = some (txt k) := by go_simp
  have X : EncAt (w.heap.size + 1 + 1) ((((w.alloc (.cells #[txt l, txt h] 24)).alloc (.cells #[txt m, txt k] 24)).alloc (.cells #[.string ⟨#[]⟩, .string ⟨#[]⟩] 24)).alloc (.cells #[txt l, txt h, txt m, txt k] 24)) [] [] := ⟨by go_simp, by go_simp, by go_simp, by go_simp⟩
  have hZ : Ext w ((((w.alloc (.cells #[txt l, txt h] 24)).alloc (.cells #[txt m, txt k] 24)).alloc (.cells #[.string ⟨#[]⟩, .string ⟨#[]⟩] 24)).alloc (.cells #[txt l, txt h, txt m, txt k] 24)) := extA
  go_enter Tryz.func20, Tryz.ntmps20
  go_wp2_with (go_at_call 79; (refine (HB.out _ (((w.alloc (.cells #[txt l, txt h] 24)).alloc (.cells #[txt m, txt k] 24)).alloc (.cells #[.string ⟨#[]⟩, .string ⟨#[]⟩] 24)) _ (by simp) rfl extA).mono ?_); rintro e w3 ⟨rfl, hE3⟩; have c0 := hE3.cell c0; have c1 := hE3.cell c1; have c2 := hE3.cell c2; have c3 := hE3.cell c3; have b0 := cell_lt c0; have b1 := cell_lt c2; dsimp only at b0 b1; obtain ⟨d0, d1, g0, g1⟩ := X.ext hE3; have E3 := hZ.trans hE3; have X3 := X.ext hE3)
  go_at_call 71
  refine (HE.out _ E3).mono ?_
  rintro e w4 ⟨rfl, hE4⟩
  obtain ⟨d0, d1, g0, g1⟩ := X3.ext hE4
  go_wp2_with fail
  refine bodyPost_ret (v := .tuple #[.agg #[txt r1, txt r2], .int .i64 (r3 : Nat)]) (by rw [results_cell_tmp1 rfl]; go_simp) rfl ?_
  exact ⟨by first | (rw [HR.out]; done) | (rw [HR.out]; rfl), extA⟩
set_option maxHeartbeats 8000000 in
set_option maxRecDepth 100000 in
theorem eSub_any (a b : Enc) (w : World) (hG : Glob w) (hl : LenE a) (hm : LenE b) : Calls Tryz.prog 22 #[encV a, encV b] w (EncP (subE a b) w) := by
  have HB := Lib.hid (checked_two a b w hG hl hm)
  have HE := Lib.hid (fun W (h : Ext w W) => eEnds_any 48 a.1 b.2 a.2 b.1 (subS a.1 b.2) (subS a.2 b.1) W enters48
    (fun V g => sub_any _ _ V (hG.ext (h.trans g)) hl.1 hm.2) (fun V g => sub_any _ _ V (hG.ext (h.trans g)) hl.2 hm.1))
  unfold EncP at HE ⊢
  obtain ⟨C, hC⟩ : ∃ C, C = subE a b := ⟨_, rfl⟩
  rw [← hC]
  have hne0 : (((0 : Nat) : Int) != 0) = false := rfl
  by_cases e0 : bothEE a b = 0
  rotate_left
  · have HR : Hid (C = (([], []), bothEE a b)) := by show _ = _; rw [hC]; unfold subE badEnc; rw [if_pos e0]
    have hne : (((bothEE a b : Nat) : Int) != 0) = true := by rw [bne_iff_ne]; omega
    clear e0 hC hl hm hG HE
    generalize bothEE a b = n at *
    obtain ⟨l, h⟩ := a
    obtain ⟨m, k⟩ := b
    dsimp only [encV] at HB ⊢
    have c0 : ((((w.alloc (.cells #[txt l, txt h] 24)).alloc (.cells #[txt m, txt k] 24)).alloc (.cells #[.string ⟨#[]⟩, .string ⟨#[]⟩] 24)).alloc (.cells #[txt l, txt h, txt m, txt k] 24)).cell? ⟨w.heap.size, 0, none⟩ = some (txt l) := by go_simp
    have c1 : ((((w.alloc (.cells #[txt l, txt h] 24)).alloc (.cells #[txt m, txt k] 24)).alloc (.cells #[.string ⟨#[]⟩, .string ⟨#[]⟩] 24)).alloc (.cells #[txt l, txt h, txt m, txt k] 24)).cell? ⟨w.heap.size, 1, none⟩ = some (txt h) := by go_simp
    have c2 : ((((w.alloc (.cells #[txt l, txt h] 24)).alloc (.cells #[txt m, txt k] 24)).alloc (.cells #[.string ⟨#[]⟩, .string ⟨#[]⟩] 24)).alloc (.cells #[txt l, txt h, txt m, txt k] 24)).cell? ⟨w.heap.size + 1, 0, none⟩ = some (txt m) := by go_simp
    have c3 : ((((w.alloc (.cells #[txt l, txt h] 24)).alloc (.cells #[txt m, txt k] 24)).alloc (.cells #[.string ⟨#[]⟩, .string ⟨#[]⟩] 24)).alloc (.cells #[txt l, txt h, txt m, txt k] 24)).cell? ⟨w.heap.size + 1, 1, none⟩ = some (txt k) := by go_simp
    have X : EncAt (w.heap.size + 1 + 1) ((((w.alloc (.cells #[txt l, txt h] 24)).alloc (.cells #[txt m, txt k] 24)).alloc (.cells #[.string ⟨#[]⟩, .string ⟨#[]⟩] 24)).alloc (.cells #[txt l, txt h, txt m, txt k] 24)) [] [] := ⟨by go_simp, by go_simp, by go_simp, by go_simp⟩
    have hZ : Ext w ((((w.alloc (.cells #[txt l, txt h] 24)).alloc (.cells #[txt m, txt k] 24)).alloc (.cells #[.string ⟨#[]⟩, .string ⟨#[]⟩] 24)).alloc (.cells #[txt l, txt h, txt m, txt k] 24)) := extA
    go_enter Tryz.func22, Tryz.ntmps22
    go_wp2_with (go_at_call 79; (refine (HB.out _ (((w.alloc (.cells #[txt l, txt h] 24)).alloc (.cells #[txt m, txt k] 24)).alloc (.cells #[.string ⟨#[]⟩, .string ⟨#[]⟩] 24)) _ (by simp) rfl extA).mono ?_); rintro e w3 ⟨rfl, hE3⟩; have c0 := hE3.cell c0; have c1 := hE3.cell c1; have c2 := hE3.cell c2; have c3 := hE3.cell c3; have b0 := cell_lt c0; have b1 := cell_lt c2; dsimp only at b0 b1; obtain ⟨d0, d1, g0, g1⟩ := X.ext hE3)
    refine bodyPost_ret (v := .tuple #[.agg #[txt [], txt []], .int .i64 (n : Nat)]) (by rw [results_cell_tmp1 rfl]; go_simp) rfl ?_
    exact ⟨by first | (rw [HR.out]; done) | (rw [HR.out]; rfl), extA⟩
  have HR : Hid (C = endsR (subS a.1 b.2) (subS a.2 b.1)) := by show _ = _; rw [hC]; unfold subE; rw [if_neg (not_not_intro e0)]
  rw [e0] at HB
  clear e0 hl hm hG hC
  generalize endsR (subS a.1 b.2) (subS a.2 b.1) = R at *
  obtain ⟨⟨r1, r2⟩, r3⟩ := R
  obtain ⟨l, h⟩ := a
  obtain ⟨m, k⟩ := b
  dsimp only [encV] at HB HE HR ⊢
  have c0 : ((((w.alloc (.cells #[txt l, txt h] 24)).alloc (.cells #[txt m, txt k] 24)).alloc (.cells #[.string ⟨#[]⟩, .string ⟨#[]⟩] 24)).alloc (.cells #[txt l, txt h, txt m, txt k] 24)).cell? ⟨w.heap.size, 0, none⟩ = some (txt l) := by go_simp
  have c1 : ((((w.alloc (.cells #[txt l, txt h] 24)).alloc (.cells #[txt m, txt k] 24)).alloc (.cells #[.string ⟨#[]⟩, .string ⟨#[]⟩] 24)).alloc (.cells #[txt l, txt h, txt m, txt k] 24)).cell? ⟨w.heap.size, 1, none⟩ = some (txt h) := by go_simp
  have c2 : ((((w.alloc (.cells #[txt l, txt h] 24)).alloc (.cells #[txt m, txt k] 24)).alloc (.cells #[.string ⟨#[]⟩, .string ⟨#[]⟩] 24)).alloc (.cells #[txt l, txt h, txt m, txt k] 24)).cell? ⟨w.heap.size + 1, 0, none⟩ = some (txt m) := by go_simp
  have c3 : ((((w.alloc (.cells #[txt l, txt h] 24)).alloc (.cells #[txt m, txt k] 24)).alloc (.cells #[.string ⟨#[]⟩, .string ⟨#[]⟩] 24)).alloc (.cells #[txt l, txt h, txt m, txt k] 24)).cell? ⟨w.heap.size + 1, 1, none⟩ = some (txt k) := by go_simp
  have X : EncAt (w.heap.size + 1 + 1) ((((w.alloc (.cells #[txt l, txt h] 24)).alloc (.cells #[txt m, txt k] 24)).alloc (.cells #[.string ⟨#[]⟩, .string ⟨#[]⟩] 24)).alloc (.cells #[txt l, txt h, txt m, txt k] 24)) [] [] := ⟨by go_simp, by go_simp, by go_simp, by go_simp⟩
  have hZ : Ext w ((((w.alloc (.cells #[txt l, txt h] 24)).alloc (.cells #[txt m, txt k] 24)).alloc (.cells #[.string ⟨#[]⟩, .string ⟨#[]⟩] 24)).alloc (.cells #[txt l, txt h, txt m, txt k] 24)) := extA
  go_enter Tryz.func22, Tryz.ntmps22
  go_wp2_with (go_at_call 79; (refine (HB.out _ (((w.alloc (.cells #[txt l, txt h] 24)).alloc (.cells #[txt m, txt k] 24)).alloc (.cells #[.string ⟨#[]⟩, .string ⟨#[]⟩] 24)) _ (by simp) rfl extA).mono ?_); rintro e w3 ⟨rfl, hE3⟩; have c0 := hE3.cell c0; have c1 := hE3.cell c1; have c2 := hE3.cell c2; have c3 := hE3.cell c3; have b0 := cell_lt c0; have b1 := cell_lt c2; dsimp only at b0 b1; obtain ⟨d0, d1, g0, g1⟩ := X.ext hE3; have E3 := hZ.trans hE3; have X3 := X.ext hE3)
  go_at_call 71
  refine (HE.out _ E3).mono ?_
  rintro e w4 ⟨rfl, hE4⟩
  obtain ⟨d0, d1, g0, g1⟩ := X3.ext hE4
  go_wp2_with fail
  refine bodyPost_ret (v := .tuple #[.agg #[txt r1, txt r2], .int .i64 (r3 : Nat)]) (by rw [results_cell_tmp1 rfl]; go_simp) rfl ?_
  exact ⟨by first | (rw [HR.out]; done) | (rw [HR.out]; rfl), extA⟩
end Go.Proofs.YtdejgaiocjfhjaaGreatDoor
namespace Go.Proofs.YtdejgaiocjfhjaaGreatDoor
open Go.RowKit
theorem four_new (W : World) (n : Nat) (hn : n = W.heap.size) : Four n (W.alloc (.cells #[.slice none 0 0, .int .i64 0] 98)) [] 0 := by
  subst hn
  exact ⟨.slice none 0 0, by go_simp, by go_simp, by go_simp, by go_simp, World.ownsRow_nil _ 0 _ _, fun b hb => by cases hb⟩
theorem EncAt.below {b n : Nat} {A B : World} {l h : Txt} (x : EncAt b A l h) (e : Below n A B) (hb : b < n) : EncAt b B l h :=
  ⟨cellB e (p := ⟨b, 0, none⟩) hb x.c0, cellB e (p := ⟨b, 1, none⟩) hb x.c1, (Below.frozen (p := ⟨b, 0, none⟩) e hb).trans x.f0, (Below.frozen (p := ⟨b, 1, none⟩) e hb).trans x.f1⟩
def E2 (r s : Res) : Nat := if (if (0 : Nat) = 0 then r.2 else 0) = 0 then s.2 else if (0 : Nat) = 0 then r.2 else 0
theorem E2_is (r s : Res) : E2 r s = if r.2 = 0 then s.2 else r.2 := rfl
theorem four_sort (r s : Res) : fourE [r.1, s.1] (E2 r s) = sortR r s := by
  rw [E2_is]
  by_cases h : r.2 = 0
  · rw [if_pos h]
    by_cases k : s.2 = 0
    · rw [sortR_good h k]; unfold fourE; rw [if_neg (not_not_intro k)]; rfl
    · unfold fourE sortR; rw [if_pos k, if_neg (not_not_intro h), if_pos k]
  · rw [if_neg h]
    unfold fourE sortR; rw [if_pos h, if_pos h]
theorem four_right {p q : Rat} (h : E2 (resQ p) (resQ q) = 0) : ∀ x ∈ [(resQ p).1, (resQ q).1], fracE x = 0 := by
  rw [E2_is] at h
  by_cases k : (resQ p).2 = 0
  · rw [if_pos k] at h
    intro x hx
    simp only [List.mem_cons, List.mem_nil_iff, or_false] at hx
    rcases hx with rfl | rfl
    · exact (resQ_right k).1
    · exact (resQ_right h).1
  · rw [if_neg k] at h; exact absurd h k
theorem addS_right {a b : Txt} (ha : fracE a = 0) (hb : fracE b = 0) : addS a b = resQ (fracQ a + fracQ b) := by
  unfold addS ifOk bothE
  rw [if_pos ha, if_pos hb]
theorem subS_right {a b : Txt} (ha : fracE a = 0) (hb : fracE b = 0) : subS a b = resQ (fracQ a - fracQ b) := by
  unfold subS ifOk bothE
  rw [if_pos ha, if_pos hb]
set_option maxHeartbeats 8000000 in
set_option maxRecDepth 100000 in
theorem rAdd2_any (a b : Enc) (w : World) (hl : LenE a) (hm : LenE b) : Calls Tryz.prog 21 #[encV a, encV b] w (EncP (addE a b) w) := by
  have HB := Lib.hid (fun W => rBoth2_any a b W hl hm)
  obtain ⟨C, hC⟩ : ∃ C, C = addE a b := ⟨_, rfl⟩
  unfold EncP
  rw [← hC]
  unfold addE at hC
  have hne0 : (((0 : Nat) : Int) != 0) = false := rfl
  obtain ⟨l, h⟩ := a
  obtain ⟨m, k⟩ := b
  obtain ⟨e, he⟩ : ∃ e, e = bothEE (l, h) (m, k) := ⟨_, rfl⟩
  rw [← he] at HB hC
  dsimp only [encV] at HB hC ⊢
  have c0 : (((w.alloc (.cells #[txt l, txt h] 24)).alloc (.cells #[txt m, txt k] 24)).alloc (.cells #[.string ⟨#[]⟩, .string ⟨#[]⟩] 24)).cell? ⟨w.heap.size, 0, none⟩ = some (txt l) := by go_simp
  have c1 : (((w.alloc (.cells #[txt l, txt h] 24)).alloc (.cells #[txt m, txt k] 24)).alloc (.cells #[.string ⟨#[]⟩, .string ⟨#[]⟩] 24)).cell? ⟨w.heap.size, 1, none⟩ = some (txt h) := by go_simp
  have c2 : (((w.alloc (.cells #[txt l, txt h] 24)).alloc (.cells #[txt m, txt k] 24)).alloc (.cells #[.string ⟨#[]⟩, .string ⟨#[]⟩] 24)).cell? ⟨w.heap.size + 1, 0, none⟩ = some (txt m) := by go_simp
  have c3 : (((w.alloc (.cells #[txt l, txt h] 24)).alloc (.cells #[txt m, txt k] 24)).alloc (.cells #[.string ⟨#[]⟩, .string ⟨#[]⟩] 24)).cell? ⟨w.heap.size + 1, 1, none⟩ = some (txt k) := by go_simp
  have X : EncAt (w.heap.size + 1 + 1) (((w.alloc (.cells #[txt l, txt h] 24)).alloc (.cells #[txt m, txt k] 24)).alloc (.cells #[.string ⟨#[]⟩, .string ⟨#[]⟩] 24)) [] [] := ⟨by go_simp, by go_simp, by go_simp, by go_simp⟩
  have E : Ext w (((w.alloc (.cells #[txt l, txt h] 24)).alloc (.cells #[txt m, txt k] 24)).alloc (.cells #[.string ⟨#[]⟩, .string ⟨#[]⟩] 24)) := extA
  go_enter Tryz.func21, Tryz.ntmps21
  go_wp2_with fail
  generalize (((w.alloc (.cells #[txt l, txt h] 24)).alloc (.cells #[txt m, txt k] 24)).alloc (.cells #[.string ⟨#[]⟩, .string ⟨#[]⟩] 24)) = w0 at c0 c1 c2 c3 X E ⊢
  refine (HB.out w0).mono ?_
  clear HB
  rintro e' w1 ⟨rfl, hE⟩
  replace c0 := hE.cell c0
  replace c1 := hE.cell c1
  replace c2 := hE.cell c2
  replace c3 := hE.cell c3
  replace X := X.ext hE
  replace E := E.trans hE
  clear hE
  by_cases e0 : e = 0
  rotate_left
  · rw [if_pos e0] at hC
    have HR : Hid (C = (([], []), e)) := hC
    have hne : (((e : Nat) : Int) != 0) = true := by rw [bne_iff_ne]; omega
    clear hC c0 c1 c2 c3 he e0 hl hm
    obtain ⟨x0, x1, f0, f1⟩ := X
    go_wp2_with fail
    refine bodyPost_ret (v := .tuple #[.agg #[txt [], txt []], .int .i64 (e : Nat)]) (by rw [results_cell_tmp1 rfl]; go_simp) rfl ?_
    exact ⟨by first | (rw [HR.out]; done) | (rw [HR.out]; rfl), extA⟩
  subst e0
  rw [if_neg (by decide)] at hC
  obtain ⟨ha, hb⟩ := bothEE_two he.symm
  clear he
  obtain ⟨a1, a2, _⟩ := enc_right ha
  obtain ⟨b1, b2, _⟩ := enc_right hb
  have H1 := Lib.hid (fun W => rAdd_any l m W hl.1 hm.1)
  have H2 := Lib.hid (fun W => rAdd_any h k W hl.2 hm.2)
  have q1 := addS_right a1 b1
  have q2 := addS_right a2 b2
  have qle := add_le (enc_le ha) (enc_le hb)
  dsimp only at q1 q2 qle
  rw [q1] at H1 hC
  rw [q2] at H2 hC
  rw [← sortR_le qle, ← four_sort] at hC
  have HRT := Lib.hid (four_right (p := fracQ l + fracQ m) (q := fracQ h + fracQ k))
  generalize resQ (fracQ l + fracQ m) = r at *
  generalize resQ (fracQ h + fracQ k) = s at *
  clear q1 q2 qle a1 a2 b1 b2 ha hb hl hm
  unfold ResP at H1 H2
  obtain ⟨r, re⟩ := r
  obtain ⟨s, se⟩ := s
  dsimp only at H1 H2 HRT hC
  generalize hEE : E2 (r, re) (s, se) = EE at hC HRT
  have HEE := Lib.hid hEE
  clear hEE
  have HR := Lib.hid hC
  clear hC
  have z0 := cell_lt c0
  have z1 := cell_lt c2
  have z2 := cell_lt X.c0
  dsimp only at z0 z1 z2
  obtain ⟨g, hg⟩ : ∃ g, g = w1.heap.size := ⟨_, rfl⟩
  have hg0 : w.heap.size < g := by omega
  have hg1 : w.heap.size + 1 < g := by omega
  have hg2 : w.heap.size + 1 + 1 < g := by omega
  have FO := four_new w1 g hg
  have EA : Ext w1 (w1.alloc (.cells #[.slice none 0 0, .int .i64 0] 98)) := extA
  go_wp2_with fail
  rw [← hg]
  replace c0 := EA.cell c0
  replace c1 := EA.cell c1
  replace c2 := EA.cell c2
  replace c3 := EA.cell c3
  replace X := X.ext EA
  replace E := E.trans EA
  generalize (w1.alloc (.cells #[.slice none 0 0, .int .i64 0] 98)) = w2 at FO c0 c1 c2 c3 X E ⊢
  clear hg
  have hg := Nat.le_of_lt hg0
  clear EA z0 z1 z2
  refine (H1.out _).mono ?_
  clear H1
  rintro e w3 ⟨rfl, hE⟩
  replace c0 := hE.cell c0
  replace c1 := hE.cell c1
  replace c2 := hE.cell c2
  replace c3 := hE.cell c3
  replace X := X.ext hE
  replace E := E.trans hE
  replace FO := FO.ext hE
  clear hE
  go_wp2_with fail
  have K := rWith_any g [] 0 re r w3 FO (Nat.zero_le _)
  refine K.mono ?_
  rintro e w4 ⟨rfl, FO4, hB⟩
  clear FO
  replace c0 := cellB hB (p := ⟨w.heap.size, 0, none⟩) hg0 c0
  replace c1 := cellB hB (p := ⟨w.heap.size, 1, none⟩) hg0 c1
  replace c2 := cellB hB (p := ⟨w.heap.size + 1, 0, none⟩) hg1 c2
  replace c3 := cellB hB (p := ⟨w.heap.size + 1, 1, none⟩) hg1 c3
  replace X := X.below hB hg2
  replace E := E.trans' hB hg
  clear hB
  go_wp2_with fail
  refine (H2.out _).mono ?_
  clear H2
  rintro e w5 ⟨rfl, hE⟩
  replace X := X.ext hE
  replace E := E.trans hE
  replace FO4 := FO4.ext hE
  clear hE c0 c1 c2 c3
  go_wp2_with fail
  have K := rWith_any g ([] ++ [r]) _ se s w5 FO4 (Nat.le_of_ble_eq_true rfl)
  refine K.mono ?_
  clear FO4
  rintro e w6 ⟨rfl, FO6, hB⟩
  replace X := X.below hB hg2
  replace E := E.trans' hB hg
  clear hB
  have FO : Four g w6 [r, s] EE := by rw [← HEE.out]; exact FO6
  clear FO6
  go_wp2_with fail
  refine (rEnds_any g [r, s] EE w6 FO (Nat.zero_lt_succ _) (by simp) HRT.out).mono ?_
  unfold EncP
  rw [← HR.out]
  clear HR HRT FO HEE
  obtain ⟨⟨y0, y1⟩, y2⟩ := C
  rintro e w7 ⟨rfl, hE⟩
  replace X := X.ext hE
  replace E := E.trans hE
  obtain ⟨x0, x1, f0, f1⟩ := X
  go_wp2_with fail
  refine bodyPost_ret (v := .tuple #[.agg #[txt y0, txt y1], .int .i64 (y2 : Nat)]) (by rw [results_cell_tmp1 rfl]; go_simp) rfl ?_
  exact ⟨rfl, extA⟩
set_option maxHeartbeats 8000000 in
set_option maxRecDepth 100000 in
theorem rSub2_any (a b : Enc) (w : World) (hl : LenE a) (hm : LenE b) : Calls Tryz.prog 23 #[encV a, encV b] w (EncP (subE a b) w) := by
  have HB := Lib.hid (fun W => rBoth2_any a b W hl hm)
  obtain ⟨C, hC⟩ : ∃ C, C = subE a b := ⟨_, rfl⟩
  unfold EncP
  rw [← hC]
  unfold subE at hC
  have hne0 : (((0 : Nat) : Int) != 0) = false := rfl
  obtain ⟨l, h⟩ := a
  obtain ⟨m, k⟩ := b
  obtain ⟨e, he⟩ : ∃ e, e = bothEE (l, h) (m, k) := ⟨_, rfl⟩
  rw [← he] at HB hC
  dsimp only [encV] at HB hC ⊢
  have c0 : (((w.alloc (.cells #[txt l, txt h] 24)).alloc (.cells #[txt m, txt k] 24)).alloc (.cells #[.string ⟨#[]⟩, .string ⟨#[]⟩] 24)).cell? ⟨w.heap.size, 0, none⟩ = some (txt l) := by go_simp
  have c1 : (((w.alloc (.cells #[txt l, txt h] 24)).alloc (.cells #[txt m, txt k] 24)).alloc (.cells #[.string ⟨#[]⟩, .string ⟨#[]⟩] 24)).cell? ⟨w.heap.size, 1, none⟩ = some (txt h) := by go_simp
  have c2 : (((w.alloc (.cells #[txt l, txt h] 24)).alloc (.cells #[txt m, txt k] 24)).alloc (.cells #[.string ⟨#[]⟩, .string ⟨#[]⟩] 24)).cell? ⟨w.heap.size + 1, 0, none⟩ = some (txt m) := by go_simp
  have c3 : (((w.alloc (.cells #[txt l, txt h] 24)).alloc (.cells #[txt m, txt k] 24)).alloc (.cells #[.string ⟨#[]⟩, .string ⟨#[]⟩] 24)).cell? ⟨w.heap.size + 1, 1, none⟩ = some (txt k) := by go_simp
  have X : EncAt (w.heap.size + 1 + 1) (((w.alloc (.cells #[txt l, txt h] 24)).alloc (.cells #[txt m, txt k] 24)).alloc (.cells #[.string ⟨#[]⟩, .string ⟨#[]⟩] 24)) [] [] := ⟨by go_simp, by go_simp, by go_simp, by go_simp⟩
  have E : Ext w (((w.alloc (.cells #[txt l, txt h] 24)).alloc (.cells #[txt m, txt k] 24)).alloc (.cells #[.string ⟨#[]⟩, .string ⟨#[]⟩] 24)) := extA
  go_enter Tryz.func23, Tryz.ntmps23
  go_wp2_with fail
  generalize (((w.alloc (.cells #[txt l, txt h] 24)).alloc (.cells #[txt m, txt k] 24)).alloc (.cells #[.string ⟨#[]⟩, .string ⟨#[]⟩] 24)) = w0 at c0 c1 c2 c3 X E ⊢
  refine (HB.out w0).mono ?_
  clear HB
  rintro e' w1 ⟨rfl, hE⟩
  replace c0 := hE.cell c0
  replace c1 := hE.cell c1
  replace c2 := hE.cell c2
  replace c3 := hE.cell c3
  replace X := X.ext hE
  replace E := E.trans hE
  clear hE
  by_cases e0 : e = 0
  rotate_left
  · rw [if_pos e0] at hC
    have HR : Hid (C = (([], []), e)) := hC
    have hne : (((e : Nat) : Int) != 0) = true := by rw [bne_iff_ne]; omega
    clear hC c0 c1 c2 c3 he e0 hl hm
    obtain ⟨x0, x1, f0, f1⟩ := X
    go_wp2_with fail
    refine bodyPost_ret (v := .tuple #[.agg #[txt [], txt []], .int .i64 (e : Nat)]) (by rw [results_cell_tmp1 rfl]; go_simp) rfl ?_
    exact ⟨by first | (rw [HR.out]; done) | (rw [HR.out]; rfl), extA⟩
  subst e0
  rw [if_neg (by decide)] at hC
  obtain ⟨ha, hb⟩ := bothEE_two he.symm
  clear he
  obtain ⟨a1, a2, _⟩ := enc_right ha
  obtain ⟨b1, b2, _⟩ := enc_right hb
  have H1 := Lib.hid (fun W => rSub_any l k W hl.1 hm.2)
  have H2 := Lib.hid (fun W => rSub_any h m W hl.2 hm.1)
  have q1 := subS_right a1 b2
  have q2 := subS_right a2 b1
  have qle := sub_le (enc_le ha) (enc_le hb)
  dsimp only at q1 q2 qle
  rw [q1] at H1 hC
  rw [q2] at H2 hC
  rw [← sortR_le qle, ← four_sort] at hC
  have HRT := Lib.hid (four_right (p := fracQ l - fracQ k) (q := fracQ h - fracQ m))
  generalize resQ (fracQ l - fracQ k) = r at *
  generalize resQ (fracQ h - fracQ m) = s at *
  clear q1 q2 qle a1 a2 b1 b2 ha hb hl hm
  unfold ResP at H1 H2
  obtain ⟨r, re⟩ := r
  obtain ⟨s, se⟩ := s
  dsimp only at H1 H2 HRT hC
  generalize hEE : E2 (r, re) (s, se) = EE at hC HRT
  have HEE := Lib.hid hEE
  clear hEE
  have HR := Lib.hid hC
  clear hC
  have z0 := cell_lt c0
  have z1 := cell_lt c2
  have z2 := cell_lt X.c0
  dsimp only at z0 z1 z2
  obtain ⟨g, hg⟩ : ∃ g, g = w1.heap.size := ⟨_, rfl⟩
  have hg0 : w.heap.size < g := by omega
  have hg1 : w.heap.size + 1 < g := by omega
  have hg2 : w.heap.size + 1 + 1 < g := by omega
  have FO := four_new w1 g hg
  have EA : Ext w1 (w1.alloc (.cells #[.slice none 0 0, .int .i64 0] 98)) := extA
  go_wp2_with fail
  rw [← hg]
  replace c0 := EA.cell c0
  replace c1 := EA.cell c1
  replace c2 := EA.cell c2
  replace c3 := EA.cell c3
  replace X := X.ext EA
  replace E := E.trans EA
  generalize (w1.alloc (.cells #[.slice none 0 0, .int .i64 0] 98)) = w2 at FO c0 c1 c2 c3 X E ⊢
  clear hg
  have hg := Nat.le_of_lt hg0
  clear EA z0 z1 z2
  refine (H1.out _).mono ?_
  clear H1
  rintro e w3 ⟨rfl, hE⟩
  replace c0 := hE.cell c0
  replace c1 := hE.cell c1
  replace c2 := hE.cell c2
  replace c3 := hE.cell c3
  replace X := X.ext hE
  replace E := E.trans hE
  replace FO := FO.ext hE
  clear hE
  go_wp2_with fail
  have K := rWith_any g [] 0 re r w3 FO (Nat.zero_le _)
  refine K.mono ?_
  rintro e w4 ⟨rfl, FO4, hB⟩
  clear FO
  replace c0 := cellB hB (p := ⟨w.heap.size, 0, none⟩) hg0 c0
  replace c1 := cellB hB (p := ⟨w.heap.size, 1, none⟩) hg0 c1
  replace c2 := cellB hB (p := ⟨w.heap.size + 1, 0, none⟩) hg1 c2
  replace c3 := cellB hB (p := ⟨w.heap.size + 1, 1, none⟩) hg1 c3
  replace X := X.below hB hg2
  replace E := E.trans' hB hg
  clear hB
  go_wp2_with fail
  refine (H2.out _).mono ?_
  clear H2
  rintro e w5 ⟨rfl, hE⟩
  replace X := X.ext hE
  replace E := E.trans hE
  replace FO4 := FO4.ext hE
  clear hE c0 c1 c2 c3
  go_wp2_with fail
  have K := rWith_any g ([] ++ [r]) _ se s w5 FO4 (Nat.le_of_ble_eq_true rfl)
  refine K.mono ?_
  clear FO4
  rintro e w6 ⟨rfl, FO6, hB⟩
  replace X := X.below hB hg2
  replace E := E.trans' hB hg
  clear hB
  have FO : Four g w6 [r, s] EE := by rw [← HEE.out]; exact FO6
  clear FO6
  go_wp2_with fail
  refine (rEnds_any g [r, s] EE w6 FO (Nat.zero_lt_succ _) (by simp) HRT.out).mono ?_
  unfold EncP
  rw [← HR.out]
  clear HR HRT FO HEE
  obtain ⟨⟨y0, y1⟩, y2⟩ := C
  rintro e w7 ⟨rfl, hE⟩
  replace X := X.ext hE
  replace E := E.trans hE
  obtain ⟨x0, x1, f0, f1⟩ := X
  go_wp2_with fail
  refine bodyPost_ret (v := .tuple #[.agg #[txt y0, txt y1], .int .i64 (y2 : Nat)]) (by rw [results_cell_tmp1 rfl]; go_simp) rfl ?_
  exact ⟨rfl, extA⟩
end Go.Proofs.YtdejgaiocjfhjaaGreatDoor
namespace Go.Proofs.YtdejgaiocjfhjaaGreatDoor
open Go.Lib (decDigits)
def pairAt (a b : Enc) (n : Nat) : Enc := ([a.1, a.2].getD (n / 2) [], [b.1, b.2].getD (n % 2) [])
def bestS (g : Bool) (a b : Enc) : Nat → Enc × Enc
  | 0 => (([], []), ([], []))
  | n + 1 => if n = 0 then (pairAt a b 0, pairAt a b 0)
    else (if beforeE (pairAt a b n) (bestS g a b n).1 g = true then pairAt a b n else (bestS g a b n).1, if beforeE (bestS g a b n).2 (pairAt a b n) g = true then pairAt a b n else (bestS g a b n).2)
theorem pairAt_ij (a b : Enc) (i j : Nat) (hj : j < 2) : pairAt a b (2 * i + j) = ([a.1, a.2].getD i [], [b.1, b.2].getD j []) := by
  unfold pairAt
  rw [show (2 * i + j) / 2 = i by omega, show (2 * i + j) % 2 = j by omega]
def valP (g : Bool) (p : Enc) : Rat := if g then fracQ p.1 / fracQ p.2 else fracQ p.1 * fracQ p.2
structure PairOk (g : Bool) (s : Bool) (p : Enc) : Prop where
  r : RightP p
  d : g = true → if s then 0 < fracQ p.2 else fracQ p.2 < 0
theorem before_is {g s : Bool} {p q : Enc} (hp : PairOk g s p) (hq : PairOk g s q) : beforeE p q g = decide (valP g p < valP g q) := by
  unfold beforeE valP
  cases g
  · simp only [Bool.false_eq_true, if_false]
    simp only [sgn_lt]
  · simp only [if_true]
    simp only [sgn_lt]
    have d1 := hp.d rfl
    have d2 := hq.d rfl
    generalize fracQ p.1 = a at *
    generalize fracQ p.2 = b at *
    generalize fracQ q.1 = c at *
    generalize fracQ q.2 = d at *
    have hb : b ≠ 0 := by cases s <;> grind
    have hd : d ≠ 0 := by cases s <;> grind
    have hbd : 0 < b * d := by
      cases s
      · have := Rat.mul_pos (show 0 < -b by grind) (show 0 < -d by grind)
        grind
      · exact Rat.mul_pos (by grind) (by grind)
    have e1 : a / b * (b * d) = a * d := by grind
    have e2 : c / d * (b * d) = c * b := by grind
    rw [← e1, ← e2]
    generalize a / b = x at *
    generalize c / d = y at *
    congr 1
    apply propext
    constructor
    · intro h
      rcases (Rat.le_total : y ≤ x ∨ x ≤ y) with k | k
      · have := mul_le k (Rat.le_of_lt hbd)
        grind
      · grind
    · intro h
      have := Rat.mul_pos (show 0 < y - x by grind) hbd
      grind
structure EndsOk (g s : Bool) (a b : Enc) : Prop where
  a1 : fracE a.1 = 0
  a2 : fracE a.2 = 0
  b1 : fracE b.1 = 0
  b2 : fracE b.2 = 0
  d1 : g = true → if s then 0 < fracQ b.1 else fracQ b.1 < 0
  d2 : g = true → if s then 0 < fracQ b.2 else fracQ b.2 < 0
theorem EndsOk.pair {g s : Bool} {a b : Enc} (h : EndsOk g s a b) {i j : Nat} (hi : i < 2) (hj : j < 2) : PairOk g s ([a.1, a.2].getD i [], [b.1, b.2].getD j []) := by
  rcases i with _ | _ | i
  · rcases j with _ | _ | j
    · exact ⟨⟨h.a1, h.b1⟩, h.d1⟩
    · exact ⟨⟨h.a1, h.b2⟩, h.d2⟩
    · omega
  · rcases j with _ | _ | j
    · exact ⟨⟨h.a2, h.b1⟩, h.d1⟩
    · exact ⟨⟨h.a2, h.b2⟩, h.d2⟩
    · omega
  · omega
theorem EndsOk.at {g s : Bool} {a b : Enc} (h : EndsOk g s a b) {n : Nat} (hn : n < 4) : PairOk g s (pairAt a b n) := h.pair (by omega) (by omega)
theorem EndsOk.best {g s : Bool} {a b : Enc} (h : EndsOk g s a b) : ∀ n, n < 4 → PairOk g s (bestS g a b (n + 1)).1 ∧ PairOk g s (bestS g a b (n + 1)).2
  | 0, _ => ⟨h.at (by omega), h.at (by omega)⟩
  | n + 1, hn => by
    obtain ⟨h1, h2⟩ := h.best n (by omega)
    have k := h.at hn
    show PairOk g s (if n + 1 = 0 then _ else _ : Enc × Enc).1 ∧ PairOk g s (if n + 1 = 0 then _ else _ : Enc × Enc).2
    rw [if_neg (by omega)]
    dsimp only
    constructor
    · split
      · exact k
      · exact h1
    · split
      · exact k
      · exact h2
theorem best_step {g s : Bool} {a b : Enc} (h : EndsOk g s a b) {n : Nat} (hn : n + 1 < 4) :
    valP g (bestS g a b (n + 2)).1 = lo2 (valP g (bestS g a b (n + 1)).1) (valP g (pairAt a b (n + 1))) ∧ valP g (bestS g a b (n + 2)).2 = hi2 (valP g (bestS g a b (n + 1)).2) (valP g (pairAt a b (n + 1))) := by
  obtain ⟨h1, h2⟩ := h.best n (by omega)
  have k := h.at hn
  have e : bestS g a b (n + 2) = (if beforeE (pairAt a b (n + 1)) (bestS g a b (n + 1)).1 g = true then pairAt a b (n + 1) else (bestS g a b (n + 1)).1, if beforeE (bestS g a b (n + 1)).2 (pairAt a b (n + 1)) g = true then pairAt a b (n + 1) else (bestS g a b (n + 1)).2) := by
    show (if n + 1 = 0 then _ else _ : Enc × Enc) = _
    rw [if_neg (by omega)]
  rw [e, before_is k h1, before_is h2 k]
  unfold lo2 hi2
  simp only [decide_eq_true_eq]
  constructor
  · split <;> rfl
  · split <;> rfl
theorem best_val {g s : Bool} {a b : Enc} (h : EndsOk g s a b) : valP g (bestS g a b 4).1 = lo4 (valP g (a.1, b.1)) (valP g (a.1, b.2)) (valP g (a.2, b.1)) (valP g (a.2, b.2)) ∧
    valP g (bestS g a b 4).2 = hi4 (valP g (a.1, b.1)) (valP g (a.1, b.2)) (valP g (a.2, b.1)) (valP g (a.2, b.2)) := by
  obtain ⟨k1, k2⟩ := best_step h (n := 2) (by omega)
  obtain ⟨k3, k4⟩ := best_step h (n := 1) (by omega)
  obtain ⟨k5, k6⟩ := best_step h (n := 0) (by omega)
  rw [k1, k3, k5, k2, k4, k6]
  exact ⟨rfl, rfl⟩
def opS (g : Bool) (p : Enc) : Res := if g then divS p.1 p.2 else mulS p.1 p.2
theorem opS_is {g s : Bool} {p : Enc} (h : PairOk g s p) : opS g p = resQ (valP g p) := by
  unfold opS valP
  cases g
  · exact mulS_right h.r.x h.r.y
  · exact divS_right h.r.x h.r.y (by have := h.d rfl; cases s <;> grind)
def extremeE (g : Bool) (a b : Enc) : EncR := sortR (opS g (bestS g a b 4).1) (opS g (bestS g a b 4).2)
theorem extreme_mul {a b : Enc} (ha : encE a = 0) (hb : encE b = 0) : EndsOk false true a b ∧ extremeE false a b = endsR (resQ (prodLo a b)) (resQ (prodHi a b)) := by
  have h : EndsOk false true a b := ⟨(enc_right ha).1, (enc_right ha).2.1, (enc_right hb).1, (enc_right hb).2.1, (fun e => by cases e), (fun e => by cases e)⟩
  refine ⟨h, ?_⟩
  unfold extremeE
  obtain ⟨b1, b2⟩ := best_val h
  rw [opS_is (h.best 3 (by omega)).1, opS_is (h.best 3 (by omega)).2, b1, b2]
  exact sortR_le (prod_le a b)
theorem extreme_div {a b : Enc} (ha : encE a = 0) (hb : encE b = 0) (h0 : has0 b = false) : (∃ s, EndsOk true s a b) ∧ extremeE true a b = endsR (resQ (quotLo a b)) (resQ (quotHi a b)) := by
  have hn := has0_not h0 hb
  have key : ∃ s, EndsOk true s a b := by
    rcases hn with hn | hn
    · exact ⟨true, (enc_right ha).1, (enc_right ha).2.1, (enc_right hb).1, (enc_right hb).2.1, (fun _ => hn.1), (fun _ => hn.2)⟩
    · exact ⟨false, (enc_right ha).1, (enc_right ha).2.1, (enc_right hb).1, (enc_right hb).2.1, (fun _ => hn.1), (fun _ => hn.2)⟩
  refine ⟨key, ?_⟩
  obtain ⟨s, h⟩ := key
  unfold extremeE
  obtain ⟨b1, b2⟩ := best_val h
  rw [opS_is (h.best 3 (by omega)).1, opS_is (h.best 3 (by omega)).2, b1, b2]
  exact sortR_le (quot_le a b)
end Go.Proofs.YtdejgaiocjfhjaaGreatDoor
namespace Go.Proofs.YtdejgaiocjfhjaaGreatDoor
open Go.Lib (decDigits)
def digL (s : List UInt8) : List Nat := s.reverse.map fun c => c.toNat - 48
theorem digL_len (s : List UInt8) : (digL s).length = s.length := by simp [digL]
theorem digL_snoc (s : List UInt8) (c : UInt8) : digL (s ++ [c]) = (c.toNat - 48) :: digL s := by simp [digL]
theorem digL_val (s : List UInt8) : valB 10 (digL s) = decV s := by
  induction s using snocRec with
  | nil => rfl
  | snoc s c ih => rw [digL_snoc, decV_snoc]; show (c.toNat - 48) + 10 * valB 10 (digL s) = _; rw [ih, Nat.add_comm]
theorem digL_ok {s : List UInt8} (h : DigitL s) : OkB 10 (digL s) := fun x hx => by
  obtain ⟨c, hc, rfl⟩ := List.mem_map.1 hx
  have := h c (List.mem_reverse.1 hc)
  omega
theorem digL_get (s : List UInt8) {k : Nat} (h : k < s.length) : (digL s).getD k 0 = (s.getD (s.length - 1 - k) 0).toNat - 48 := by
  unfold digL
  simp only [List.getD_eq_getElem?_getD, List.getElem?_map]
  rw [List.getElem?_reverse h, List.getElem?_eq_getElem (show s.length - 1 - k < s.length by omega)]
  rfl
structure MulK (a b : List Nat) (i k : Nat) (o : List Nat) : Prop where
  len : o.length = a.length + b.length
  bd : ∀ j, o.getD j 0 ≤ 81 * i + 81
  bz : ∀ j, i + k ≤ j → o.getD j 0 ≤ 81 * i
  v : valB 10 o = valB 10 (a.take i) * valB 10 b + 10 ^ i * (a.getD i 0 * valB 10 (b.take k))
theorem MulK.start (a b : List Nat) : MulK a b 0 0 (List.replicate (a.length + b.length) 0) := by
  have hz : ∀ j, (List.replicate (a.length + b.length) 0).getD j 0 = 0 := fun j => by
    rw [List.getD_eq_getElem?_getD, List.getElem?_replicate]; split <;> rfl
  exact ⟨List.length_replicate, fun j => by rw [hz]; omega, fun j _ => by rw [hz]; omega, by rw [valB_zeros]; simp [valB]⟩
theorem MulK.next {a b : List Nat} (ha : OkB 10 a) (hb : OkB 10 b) {i k : Nat} {o : List Nat} (h : MulK a b i k o) (hi : i < a.length) (hk : k < b.length) :
    MulK a b i (k + 1) (o.set (i + k) (o.getD (i + k) 0 + a.getD i 0 * b.getD k 0)) := by
  have h1 := okB_getD ha (by omega) i
  have h2 := okB_getD hb (by omega) k
  have hxy : a.getD i 0 * b.getD k 0 ≤ 9 * 9 := Nat.mul_le_mul (by omega) (by omega)
  have hlen := h.len
  have hz := h.bz (i + k) (Nat.le_refl _)
  refine ⟨by rw [List.length_set]; exact hlen, fun j => ?_, fun j hj => ?_, ?_⟩
  · rw [getD_set_nat _ _ _ _ (by omega)]
    split
    · omega
    · exact h.bd j
  · rw [getD_set_nat _ _ _ _ (by omega), if_neg (by omega)]
    exact h.bz j (by omega)
  · have hs := valB_set 10 o (j := i + k) (by omega) (o.getD (i + k) 0 + a.getD i 0 * b.getD k 0)
    have hv := h.v
    rw [valB_take_succ 10 b k]
    generalize valB 10 (o.set (i + k) (o.getD (i + k) 0 + a.getD i 0 * b.getD k 0)) = vo at *
    generalize valB 10 o = v0 at *
    generalize o.getD (i + k) 0 = oj at *
    generalize a.getD i 0 = x at *
    generalize b.getD k 0 = y at *
    generalize valB 10 (b.take k) = vb at *
    generalize valB 10 (a.take i) * valB 10 b = V at *
    have hq : 10 ^ (i + k) = 10 ^ i * 10 ^ k := Nat.pow_add ..
    have e3 : 10 ^ i * (x * (vb + 10 ^ k * y)) = 10 ^ i * (x * vb) + 10 ^ (i + k) * (x * y) := by
      rw [hq, Nat.mul_add x, Nat.mul_add (10 ^ i), Nat.mul_assoc (10 ^ i) (10 ^ k)]
      congr 2
      rw [Nat.mul_left_comm]
    rw [e3]
    rw [Nat.mul_add] at hs
    omega
theorem MulK.outer {a b : List Nat} {i : Nat} {o : List Nat} (h : MulK a b i b.length o) : MulK a b (i + 1) 0 o := by
  refine ⟨h.len, fun j => by have := h.bd j; omega, fun j _ => by have := h.bd j; omega, ?_⟩
  rw [h.v, List.take_length, valB_take_succ, Nat.add_mul, Nat.mul_assoc]
  simp [valB]
theorem MulK.done {a b : List Nat} {o : List Nat} (h : MulK a b a.length 0 o) : o.length = a.length + b.length ∧ (∀ j, o.getD j 0 ≤ 81 * a.length + 81) ∧ valB 10 o = valB 10 a * valB 10 b := by
  refine ⟨h.len, h.bd, ?_⟩
  rw [h.v, List.take_length]
  simp [valB]
structure CarI (N P M j : Nat) (o : List Nat) : Prop where
  len : o.length = N
  ok : ∀ i, i < j → o.getD i 0 < 10
  bd : o.getD j 0 ≤ 2 * M
  br : ∀ i, j < i → o.getD i 0 ≤ M
  v : valB 10 o = P
theorem CarI.start {o : List Nat} {M : Nat} (h : ∀ j, o.getD j 0 ≤ M) : CarI o.length (valB 10 o) M 0 o :=
  ⟨rfl, fun i hi => by omega, by have := h 0; omega, fun i _ => h i, rfl⟩
theorem CarI.next {N P M j : Nat} {o : List Nat} (h : CarI N P M j o) (hj : j + 1 < N) :
    CarI N P M (j + 1) ((o.set (j + 1) (o.getD (j + 1) 0 + o.getD j 0 / 10)).set j (o.getD j 0 % 10)) := by
  have hlen := h.len
  have h1 := h.bd
  have h2 := h.br (j + 1) (by omega)
  have hl1 : j + 1 < o.length := by omega
  have hl2 : j < (o.set (j + 1) (o.getD (j + 1) 0 + o.getD j 0 / 10)).length := by rw [List.length_set]; omega
  have hg : ∀ i, ((o.set (j + 1) (o.getD (j + 1) 0 + o.getD j 0 / 10)).set j (o.getD j 0 % 10)).getD i 0 =
      if j = i then o.getD j 0 % 10 else if j + 1 = i then o.getD (j + 1) 0 + o.getD j 0 / 10 else o.getD i 0 := fun i => by
    rw [getD_set_nat _ _ _ _ hl2, getD_set_nat _ _ _ _ hl1]
  refine ⟨by rw [List.length_set, List.length_set]; exact hlen, fun i hi => ?_, ?_, fun i hi => ?_, ?_⟩
  · rw [hg]
    by_cases e : j = i
    · rw [if_pos e]; omega
    · rw [if_neg e, if_neg (by omega)]; exact h.ok i (by omega)
  · rw [hg, if_neg (by omega), if_pos rfl]; omega
  · rw [hg, if_neg (by omega), if_neg (by omega)]; exact h.br i (by omega)
  · have s1 := valB_set 10 o hl1 (o.getD (j + 1) 0 + o.getD j 0 / 10)
    have s2 := valB_set 10 _ hl2 (o.getD j 0 % 10)
    rw [getD_set_nat _ _ _ _ hl1, if_neg (by omega)] at s2
    have hv := h.v
    generalize valB 10 ((o.set (j + 1) (o.getD (j + 1) 0 + o.getD j 0 / 10)).set j (o.getD j 0 % 10)) = v2 at *
    generalize valB 10 (o.set (j + 1) (o.getD (j + 1) 0 + o.getD j 0 / 10)) = v1 at *
    generalize o.getD (j + 1) 0 = y at *
    generalize o.getD j 0 = x at *
    have e : 10 ^ j * (x % 10 + 10 * (x / 10)) = 10 ^ j * x := by rw [Nat.mod_add_div]
    rw [Nat.mul_add] at s1 e
    rw [Nat.pow_succ] at s1
    rw [← Nat.mul_assoc] at e
    omega
theorem valB_last {o : List Nat} {n : Nat} (h : o.length = n + 1) : valB 10 o = valB 10 (o.take n) + 10 ^ n * o.getD n 0 := by
  rw [← valB_take_succ, ← h, List.take_length]
theorem CarI.done {N P M : Nat} {o : List Nat} (h : CarI (N + 1) P M N o) (hP : P < 10 ^ (N + 1)) : OkB 10 o := fun x hx => by
  obtain ⟨i, hi, rfl⟩ := List.getElem_of_mem hx
  have e : o.getD i 0 = o[i] := by simp [List.getD_eq_getElem?_getD, hi]
  rw [← e]
  have hlen := h.len
  by_cases k : i < N
  · exact h.ok i k
  · have hiN : i = N := by omega
    subst hiN
    have h2 := valB_last hlen
    rw [h.v] at h2
    rw [Nat.pow_succ] at hP
    have h3 : 10 ^ i * o.getD i 0 < 10 ^ i * 10 := by omega
    exact Nat.lt_of_mul_lt_mul_left h3
def prodV (l : List (List UInt8)) : Nat := l.foldl (fun v s => v * decV s) 1
theorem prodV_take {l : List (List UInt8)} {n : Nat} (h : n < l.length) : prodV (l.take (n + 1)) = prodV (l.take n) * decV (l.getD n []) := by
  have e : l.take (n + 1) = l.take n ++ [l.getD n []] := by
    rw [List.take_add_one, List.getD_eq_getElem?_getD, List.getElem?_eq_getElem h]; rfl
  rw [e]
  unfold prodV
  rw [List.foldl_append]
  rfl
def digT (t : List Nat) : List UInt8 := t.reverse.map fun d => UInt8.ofNat (48 + d)
theorem digT_digL {t : List Nat} (h : OkB 10 t) : digL (digT t) = t := by
  unfold digL digT
  rw [← List.map_reverse, List.reverse_reverse, List.map_map]
  conv => rhs; rw [← List.map_id t]
  refine List.map_congr_left fun x hx => ?_
  have := h x hx
  show (UInt8.ofNat (48 + x)).toNat - 48 = x
  rw [digit_toNat this]; omega
theorem digT_dec {t : List Nat} (h : OkB 10 t) (h1 : 1 ≤ t.length) (h2 : t.length = 1 ∨ t.getD (t.length - 1) 0 ≠ 0) : digT t = decDigits (valB 10 t) := by
  have hv : decV (digT t) = valB 10 t := by rw [← digL_val, digT_digL h]
  rw [← hv]
  symm
  refine canon_back ⟨fun c hc => ?_, ?_, ?_⟩
  · obtain ⟨d, hd, rfl⟩ := List.mem_map.1 hc
    have := h d (List.mem_reverse.1 hd)
    rw [digit_toNat this]; omega
  · intro e
    have := congrArg List.length e
    simp [digT] at this
    rw [this] at h1; simp at h1
  · by_cases h3 : t.getD (t.length - 1) 0 = 0
    · right
      have h4 : t.length = 1 := h2.resolve_right (not_not_intro h3)
      match t, h4 with
      | [x], _ =>
        have : x = 0 := by simpa using h3
        subst this; rfl
    · left
      have h5 : (digT t).head? = some (UInt8.ofNat (48 + t.getD (t.length - 1) 0)) := by
        unfold digT
        rw [List.head?_map, List.head?_reverse, List.getLast?_eq_getElem?, List.getD_eq_getElem?_getD, List.getElem?_eq_getElem (show t.length - 1 < t.length by omega)]
        rfl
      rw [h5]
      intro e
      have e2 := congrArg (Option.map UInt8.toNat) e
      simp only [Option.map_some, Option.some.injEq] at e2
      have h6 := okB_getD h (by omega) (t.length - 1)
      rw [digit_toNat h6] at e2
      have : (48 : UInt8).toNat = 48 := rfl
      omega
theorem digT_len (t : List Nat) : (digT t).length = t.length := by simp [digT]
theorem digT_take {t : List Nat} {k : Nat} (h : k < t.length) : (digT t).take (k + 1) = (digT t).take k ++ [UInt8.ofNat (48 + t.getD (t.length - 1 - k) 0)] := by
  unfold digT
  rw [List.take_add_one, List.getElem?_map, List.getElem?_reverse h, List.getElem?_eq_getElem (show t.length - 1 - k < t.length by omega),
    List.getD_eq_getElem?_getD, List.getElem?_eq_getElem (show t.length - 1 - k < t.length by omega)]
  rfl
end Go.Proofs.YtdejgaiocjfhjaaGreatDoor
namespace Go.Proofs.YtdejgaiocjfhjaaGreatDoor
open Go.RowKit
theorem byteCells_one (c : UInt8) : Lib.byteCells [c] = [.int .u8 (c.toNat : Int)] := rfl
set_option maxHeartbeats 2000000 in
set_option maxRecDepth 100000 in
theorem WriteByte_any (b n3 : Nat) (l : Txt) (c : UInt8) (w : World) (h : BldW b n3 l w) (hb : b < n3) (hn : n3 ≤ w.heap.size) (hlen : l.length ≤ 100000) :
    Calls Tryz.prog 143 #[.pointer (some ⟨b, 0, none⟩), .int .u8 (c.toNat : Int)] w fun e w' => e = .returned .nilIface ∧ BldW b n3 (l ++ [c]) w' ∧ Below b w w' := by
  obtain ⟨i0, hi, hz0, hz1, hz2⟩ := info_parts Tryz.Builder_Extra_169.infoByte
  obtain ⟨p, v, h1, h2, h3⟩ := h
  have hbw : b < w.heap.size := by omega
  have hvb : v.ownBlock ≠ some b := fun e => by have := (row_ge h3 e).1; omega
  have hCC : Hid (Calls Tryz.prog 171 #[.pointer (some ⟨b, 0, none⟩)] w fun e w' => e = .returned (.tuple #[]) ∧ w'.heap[b]? = some (.cells #[.pointer (some ⟨b, 0, none⟩), v] 176 (0, 0)) ∧ Chg (fun k => k = b) w w' ∧ Below b w w') := by
    rcases h2 with rfl | rfl
    · refine (copyCheck_fresh b w (by simp [World.cell?, h1]) (by simp [World.shape?, h1]) (by simp [World.frozen?, h1])).mono ?_
      rintro e w' ⟨rfl, rfl⟩
      refine ⟨rfl, ?_, Chg.setCell (B := fun k => k = b) ⟨b, 0, none⟩ _ rfl, (Below.refl b w).setCell (p := ⟨b, 0, none⟩) (Nat.le_refl _) _⟩
      simp only [World.setCell, Array.getElem?_modify, h1]
      simp
    · refine (copyCheck_used b w (by simp [World.cell?, h1])).mono ?_
      rintro e w' ⟨rfl, rfl⟩
      exact ⟨rfl, h1, Chg.refl _ _, Below.refl _ _⟩
  have HR := Lib.hid h3
  have HV := Lib.hid hvb
  clear h1 h2 h3 hvb
  go_enter Tryz.func143, Tryz.ntmps143
  go_wp2_with (go_at_call 171; refine hCC.out.mono ?_)
  rintro e w1 ⟨rfl, k1, k2, k3⟩
  have c0 : w1.cell? ⟨b, 0, none⟩ = some (.pointer (some ⟨b, 0, none⟩)) := by rw [Lib.cell_of_heap k1]; rfl
  have c1 : w1.cell? ⟨b, 1, none⟩ = some v := by rw [Lib.cell_of_heap k1]; rfl
  have hz := k2.1
  have hlt0 : b < w1.heap.size := by omega
  have hA : Ext w1 (w1.alloc (.cells #[.int .u8 (c.toNat : Int)] 5)) := extA
  have hown : (w1.alloc (.cells #[.int .u8 (c.toNat : Int)] 5)).ownsRow n3 5 1 v l.length (Lib.byteCells l) := row_same HR.out (fun g hg => by
    obtain ⟨_, cur, hh⟩ := row_ge HR.out hg
    have hg2 := (Array.getElem?_eq_some_iff.1 hh).1
    exact (hA.block g (by omega)).trans (k2.2 g hg2 (fun e => HV.out (e ▸ hg))))
  have hnew : (w1.alloc (.cells #[.int .u8 (c.toNat : Int)] 5)).cell? ⟨w1.heap.size, 0, none⟩ = some (.int .u8 (c.toNat : Int)) := by go_simp
  have e1 : (w1.alloc (.cells #[.int .u8 (c.toNat : Int)] 5)).heap[b]? = some (.cells #[.pointer (some ⟨b, 0, none⟩), v] 176 (0, 0)) := (hA.block b hlt0).trans k1
  have hs2 : w1.heap.size < (w1.alloc (.cells #[.int .u8 (c.toNat : Int)] 5)).heap.size := by show _ < (w1.heap.push _).size; rw [Array.size_push]; omega
  have HB1 : Hid (Below b w (w1.alloc (.cells #[.int .u8 (c.toNat : Int)] 5))) := k3.trans (hA.mono (by omega))
  have e0 := e1
  clear k1 k2 k3 HR
  go_wp2_with (at_builtin; refine Go.wpList_append_own _ rfl _ _ 174 rfl n3 5 i0 (.int .u8 0) 1 1 Tryz.underlying174 hi hz0 hz1 hz2 rfl (by decide) _ _ _ rfl hown ⟨w1.heap.size, 0, none⟩ 1 1 [.int .u8 (c.toNat : Int)] rfl rfl ?c1 ?c2 ?c3 ?c4 ?c5 ?_)
  case c1 =>
    intro j u hj
    match j, hj with
    | 0, hj => simp only [List.getElem?_cons_zero, Option.some.injEq] at hj; subst hj; exact hnew
  case c2 => intro u hu; rw [List.mem_singleton.1 hu]; rfl
  case c3 => unfold maxLen; omega
  case c4 => omega
  case c5 => omega
  intro v' w2 hown' hgrow _
  generalize w1.alloc (.cells #[.int .u8 (c.toNat : Int)] 5) = w1' at *
  have hlt : b < w1'.heap.size := by omega
  have hb2 : w2.heap[b]? = some (.cells #[.pointer (some ⟨b, 0, none⟩), v] 176 (0, 0)) := by
    rw [hgrow.block b hlt (fun e => HV.out e.symm)]
    exact e0
  have d0 : w2.cell? ⟨b, 0, none⟩ = some (.pointer (some ⟨b, 0, none⟩)) := by rw [Lib.cell_of_heap hb2]; rfl
  have d1 : w2.cell? ⟨b, 1, none⟩ = some v := by rw [Lib.cell_of_heap hb2]; rfl
  have f1 : w2.frozen? ⟨b, 1, none⟩ = false := Lib.frozen_of_heap hb2 1
  obtain ⟨ao, n', cap, rfl⟩ : ∃ ao n' cap, v' = .slice ao n' cap := by
    rcases hown'.2 with ⟨hv, _⟩ | ⟨g, cap, cur, hv, _⟩
    · exact ⟨_, _, _, hv⟩
    · exact ⟨_, _, _, hv⟩
  have hW : BldW b n3 (l ++ [c]) (w2.setCell ⟨b, 1, none⟩ (.slice ao n' cap)) := by
    refine ⟨.pointer (some ⟨b, 0, none⟩), .slice ao n' cap, ?_, .inr rfl, ?_⟩
    · show (w2.setCell ⟨b, 1, none⟩ (.slice ao n' cap)).heap[b]? = some (.cells #[.pointer (some ⟨b, 0, none⟩), .slice ao n' cap] _ (0, 0))
      simp only [World.setCell, Array.getElem?_modify, hb2]
      simp
    · have h9 : (w2.setCell ⟨b, 1, none⟩ (.slice ao n' cap)).ownsRow n3 5 1 (.slice ao n' cap) (l.length + 1) (Lib.byteCells l ++ [.int .u8 (c.toNat : Int)]) :=
        row_same hown' (fun g hg => Below.heap_setCell _ ⟨b, 1, none⟩ _ g (fun e => by have := (row_ge hown' hg).1; dsimp only at e; omega))
      rw [← byteCells_one, ← byteCells_app] at h9
      rw [List.length_append]
      exact h9
  have hB : Below b w (w2.setCell ⟨b, 1, none⟩ (.slice ao n' cap)) :=
    (HB1.out.grown hgrow (by omega) (fun k hk => by have := (row_ge hown hk).1; omega)).setCell (p := ⟨b, 1, none⟩) (Nat.le_refl _) _
  have HF := Lib.hid (And.intro hW hB)
  clear hW hB hown hown' hgrow HB1
  go_wp2
  go_ret
  exact ⟨rfl, HF.out⟩
end Go.Proofs.YtdejgaiocjfhjaaGreatDoor
