/- Steps of the proof: EHull, EFourE, EMeet. No conditions. -/
import Derived.Test.YtdejgaiocjfhjaaGreatDoorZEB1
import Derived.Test.YtdejgaiocjfhjaaGreatDoorZEB2
import Derived.Test.YtdejgaiocjfhjaaGreatDoorZEB3
import Derived.Test.YtdejgaiocjfhjaaGreatDoorZEB4
import Derived.Test.YtdejgaiocjfhjaaGreatDoorZEB5
import Derived.Test.YtdejgaiocjfhjaaGreatDoorZEB6
import Derived.Test.YtdejgaiocjfhjaaGreatDoorZEB7
import Derived.Test.YtdejgaiocjfhjaaGreatDoorZEB8
namespace Go.Proofs.YtdejgaiocjfhjaaGreatDoor
open Go.RowKit
theorem EncAt.set0 {b : Nat} {A : World} {l h : Txt} (x : EncAt b A l h) (v : Txt) : EncAt b (A.setCell ⟨b, 0, none⟩ (txt v)) v h :=
  ⟨World.cell?_setCell_same _ _ _ x.c0, by rw [World.cell?_setCell_other _ _ _ _ (fun h => by simp only [Addr.mk.injEq] at h; omega)]; exact x.c1, by rw [World.frozen?_setCell]; exact x.f0, by rw [World.frozen?_setCell]; exact x.f1⟩
theorem EncAt.set1 {b : Nat} {A : World} {l h : Txt} (x : EncAt b A l h) (v : Txt) : EncAt b (A.setCell ⟨b, 1, none⟩ (txt v)) l v :=
  ⟨by rw [World.cell?_setCell_other _ _ _ _ (fun h => by simp only [Addr.mk.injEq] at h; omega)]; exact x.c0, World.cell?_setCell_same _ _ _ x.c1, by rw [World.frozen?_setCell]; exact x.f0, by rw [World.frozen?_setCell]; exact x.f1⟩
theorem EncAt.other {b c o : Nat} {A : World} {l h : Txt} {v : Value} (x : EncAt b A l h) (hn : b ≠ c) : EncAt b (A.setCell ⟨c, o, none⟩ v) l h :=
  ⟨by rw [World.cell?_setCell_other _ _ _ _ (fun h => by simp only [Addr.mk.injEq] at h; omega)]; exact x.c0, by rw [World.cell?_setCell_other _ _ _ _ (fun h => by simp only [Addr.mk.injEq] at h; omega)]; exact x.c1, by rw [World.frozen?_setCell]; exact x.f0, by rw [World.frozen?_setCell]; exact x.f1⟩
set_option maxHeartbeats 8000000 in
set_option maxRecDepth 100000 in
theorem eHull_any (a b : Enc) (w : World) (hG : Glob w) (hl : LenE a) (hm : LenE b) : Calls Tryz.prog 30 #[encV a, encV b] w (EncP (hullE a b) w) := by
  have HB := Lib.hid (checked_two a b w hG hl hm)
  unfold EncP
  obtain ⟨C, hC⟩ : ∃ C, C = hullE a b := ⟨_, rfl⟩
  rw [← hC]
  have hne0 : (((0 : Nat) : Int) != 0) = false := rfl
  by_cases e0 : bothEE a b = 0
  rotate_left
  · have HR : Hid (C = (([], []), bothEE a b)) := by show _ = _; rw [hC]; unfold hullE badEnc; rw [if_pos e0]
    have hne : (((bothEE a b : Nat) : Int) != 0) = true := by rw [bne_iff_ne]; omega
    clear e0 hC hl hm hG
    generalize bothEE a b = n at *
    obtain ⟨l, h⟩ := a
    obtain ⟨m, k⟩ := b
    dsimp only [encV] at HB ⊢
    have c0 : ((((w.alloc (.cells #[txt l, txt h] 24)).alloc (.cells #[txt m, txt k] 24)).alloc (.cells #[.string ⟨#[]⟩, .string ⟨#[]⟩] 24)).alloc (.cells #[txt l, txt h, txt m, txt k] 24)).cell? ⟨w.heap.size, 0, none⟩ = some (txt l) := by go_simp
    have c1 : ((((w.alloc (.cells #[txt l, txt h] 24)).alloc (.cells #[txt m, txt k] 24)).alloc (.cells #[.string ⟨#[]⟩, .string ⟨#[]⟩] 24)).alloc (.cells #[txt l, txt h, txt m, txt k] 24)).cell? ⟨w.heap.size, 1, none⟩ = some (txt h) := by go_simp
    have c2 : ((((w.alloc (.cells #[txt l, txt h] 24)).alloc (.cells #[txt m, txt k] 24)).alloc (.cells #[.string ⟨#[]⟩, .string ⟨#[]⟩] 24)).alloc (.cells #[txt l, txt h, txt m, txt k] 24)).cell? ⟨w.heap.size + 1, 0, none⟩ = some (txt m) := by go_simp
    have c3 : ((((w.alloc (.cells #[txt l, txt h] 24)).alloc (.cells #[txt m, txt k] 24)).alloc (.cells #[.string ⟨#[]⟩, .string ⟨#[]⟩] 24)).alloc (.cells #[txt l, txt h, txt m, txt k] 24)).cell? ⟨w.heap.size + 1, 1, none⟩ = some (txt k) := by go_simp
    have X : EncAt (w.heap.size + 1 + 1) ((((w.alloc (.cells #[txt l, txt h] 24)).alloc (.cells #[txt m, txt k] 24)).alloc (.cells #[.string ⟨#[]⟩, .string ⟨#[]⟩] 24)).alloc (.cells #[txt l, txt h, txt m, txt k] 24)) [] [] := ⟨by go_simp, by go_simp, by go_simp, by go_simp⟩
    have hZ : Ext w ((((w.alloc (.cells #[txt l, txt h] 24)).alloc (.cells #[txt m, txt k] 24)).alloc (.cells #[.string ⟨#[]⟩, .string ⟨#[]⟩] 24)).alloc (.cells #[txt l, txt h, txt m, txt k] 24)) := extA
    go_enter Tryz.func30, Tryz.ntmps30
    go_wp2_with (go_at_call 79; (refine (HB.out _ (((w.alloc (.cells #[txt l, txt h] 24)).alloc (.cells #[txt m, txt k] 24)).alloc (.cells #[.string ⟨#[]⟩, .string ⟨#[]⟩] 24)) _ (by simp) rfl extA).mono ?_); rintro e w3 ⟨rfl, hE3⟩; have c0 := hE3.cell c0; have c1 := hE3.cell c1; have c2 := hE3.cell c2; have c3 := hE3.cell c3; have b0 := cell_lt c0; have b1 := cell_lt c2; dsimp only at b0 b1; obtain ⟨d0, d1, g0, g1⟩ := X.ext hE3)
    refine bodyPost_ret (v := .tuple #[.agg #[txt [], txt []], .int .i64 (n : Nat)]) (by rw [results_cell_tmp1 rfl]; go_simp) rfl ?_
    exact ⟨by first | (rw [HR.out]; done) | (rw [HR.out]; rfl), extA⟩
  obtain ⟨ea, eb⟩ := bothEE_two e0
  obtain ⟨f1, f2, _⟩ := enc_right ea
  obtain ⟨f3, f4, _⟩ := enc_right eb
  have HO1 := Lib.hid (fun W (h : Ext w W) => eOrder_any b.1 a.1 W (hG.ext h) hm.1 hl.1 (bothE_zero f3 f1))
  have HO2 := Lib.hid (fun W (h : Ext w W) => eOrder_any b.2 a.2 W (hG.ext h) hm.2 hl.2 (bothE_zero f4 f2))
  have HR : Hid (C = ((if ordQ b.1 a.1 < 0 then b.1 else a.1, if 0 < ordQ b.2 a.2 then b.2 else a.2), 0)) := by show _ = _; rw [hC]; unfold hullE lowHull highHull; rw [if_neg (not_not_intro e0)]
  rw [e0] at HB
  clear e0 ea eb f1 f2 f3 f4 hl hm hG hC
  obtain ⟨l, h⟩ := a
  obtain ⟨m, k⟩ := b
  dsimp only [encV] at HB HO1 HO2 HR ⊢
  generalize ordQ m l = z1 at *
  generalize ordQ k h = z2 at *
  by_cases h1 : z1 < 0
  · rw [if_pos h1] at HR
    by_cases h2 : 0 < z2
    · rw [if_pos h2] at HR
      have c0 : ((((w.alloc (.cells #[txt l, txt h] 24)).alloc (.cells #[txt m, txt k] 24)).alloc (.cells #[.string ⟨#[]⟩, .string ⟨#[]⟩] 24)).alloc (.cells #[txt l, txt h, txt m, txt k] 24)).cell? ⟨w.heap.size, 0, none⟩ = some (txt l) := by go_simp
      have c1 : ((((w.alloc (.cells #[txt l, txt h] 24)).alloc (.cells #[txt m, txt k] 24)).alloc (.cells #[.string ⟨#[]⟩, .string ⟨#[]⟩] 24)).alloc (.cells #[txt l, txt h, txt m, txt k] 24)).cell? ⟨w.heap.size, 1, none⟩ = some (txt h) := by go_simp
      have c2 : ((((w.alloc (.cells #[txt l, txt h] 24)).alloc (.cells #[txt m, txt k] 24)).alloc (.cells #[.string ⟨#[]⟩, .string ⟨#[]⟩] 24)).alloc (.cells #[txt l, txt h, txt m, txt k] 24)).cell? ⟨w.heap.size + 1, 0, none⟩ = some (txt m) := by go_simp
      have c3 : ((((w.alloc (.cells #[txt l, txt h] 24)).alloc (.cells #[txt m, txt k] 24)).alloc (.cells #[.string ⟨#[]⟩, .string ⟨#[]⟩] 24)).alloc (.cells #[txt l, txt h, txt m, txt k] 24)).cell? ⟨w.heap.size + 1, 1, none⟩ = some (txt k) := by go_simp
      have X : EncAt (w.heap.size + 1 + 1) ((((w.alloc (.cells #[txt l, txt h] 24)).alloc (.cells #[txt m, txt k] 24)).alloc (.cells #[.string ⟨#[]⟩, .string ⟨#[]⟩] 24)).alloc (.cells #[txt l, txt h, txt m, txt k] 24)) [] [] := ⟨by go_simp, by go_simp, by go_simp, by go_simp⟩
      have hZ : Ext w ((((w.alloc (.cells #[txt l, txt h] 24)).alloc (.cells #[txt m, txt k] 24)).alloc (.cells #[.string ⟨#[]⟩, .string ⟨#[]⟩] 24)).alloc (.cells #[txt l, txt h, txt m, txt k] 24)) := extA
      have P : EncAt w.heap.size ((((w.alloc (.cells #[txt l, txt h] 24)).alloc (.cells #[txt m, txt k] 24)).alloc (.cells #[.string ⟨#[]⟩, .string ⟨#[]⟩] 24)).alloc (.cells #[txt l, txt h, txt m, txt k] 24)) l h := ⟨c0, c1, by go_simp, by go_simp⟩
      have Q : EncAt (w.heap.size + 1) ((((w.alloc (.cells #[txt l, txt h] 24)).alloc (.cells #[txt m, txt k] 24)).alloc (.cells #[.string ⟨#[]⟩, .string ⟨#[]⟩] 24)).alloc (.cells #[txt l, txt h, txt m, txt k] 24)) m k := ⟨c2, c3, by go_simp, by go_simp⟩
      go_enter Tryz.func30, Tryz.ntmps30
      go_wp2_with (go_at_call 79; (refine (HB.out _ (((w.alloc (.cells #[txt l, txt h] 24)).alloc (.cells #[txt m, txt k] 24)).alloc (.cells #[.string ⟨#[]⟩, .string ⟨#[]⟩] 24)) _ (by simp) rfl extA).mono ?_); rintro e w3 ⟨rfl, hE3⟩; have c0 := hE3.cell c0; have c1 := hE3.cell c1; have c2 := hE3.cell c2; have c3 := hE3.cell c3; have b0 := cell_lt c0; have b1 := cell_lt c2; dsimp only at b0 b1)
      have hA : Ext w3 (w3.alloc (.cells #[txt l, txt h] 24)) := extA
      have Y : EncAt w3.heap.size (w3.alloc (.cells #[txt l, txt h] 24)) l h := ⟨by go_simp, by go_simp, by go_simp, by go_simp⟩
      have s3 : w.heap.size + 1 + 1 < w3.heap.size := cell_lt (X.ext hE3).c0
      have E := (hZ.trans hE3).trans hA
      replace X := (X.ext hE3).ext hA
      replace P := (P.ext hE3).ext hA
      replace Q := (Q.ext hE3).ext hA
      obtain ⟨ob, hob⟩ : ∃ ob, ob = w3.heap.size := ⟨_, rfl⟩
      have n0 : w.heap.size ≠ ob := by omega
      have n1 : w.heap.size + 1 ≠ ob := by omega
      have n2 : w.heap.size + 1 + 1 ≠ ob := by omega
      have hwb : w.heap.size ≤ ob := by omega
      rw [← hob] at Y ⊢
      generalize w3.alloc (.cells #[txt l, txt h] 24) = w4 at Y E X P Q ⊢
      clear hA hE3 hZ s3 hob b0 b1 c0 c1 c2 c3
      go_wp2_with (go_at_call 84; have hh := HO1; clear HO1; (refine (hh.out _ E).mono ?_); clear hh; rintro e w5 ⟨rfl, hE⟩; have P5 := Lib.hid ((P).ext hE); have Q5 := Lib.hid ((Q).ext hE); have X5 := Lib.hid ((X).ext hE); have Y5 := Lib.hid ((Y).ext hE); obtain ⟨c0, c1, _, _⟩ := P5.out; obtain ⟨c2, c3, _, _⟩ := Q5.out; obtain ⟨d0, d1, g0, g1⟩ := X5.out; obtain ⟨y0, y1, p0, p1⟩ := Y5.out)
      replace E := E.trans hE
      clear P Q X Y hE c0 c1 c2 c3 d0 d1 g0 g1 y0 y1 p0 p1
      have P := P5.out.other (o := 0) (v := txt m) n0
      have Q := Q5.out.other (o := 0) (v := txt m) n1
      have X := X5.out.other (o := 0) (v := txt m) n2
      have Y := Y5.out.set0 m
      replace E := E.set hwb (o := 0) (txt m)
      clear P5 Q5 X5 Y5
      go_wp2_with (go_at_call 84; have hh := HO2; clear HO2; (refine (hh.out _ E).mono ?_); clear hh; rintro e w6 ⟨rfl, hE⟩; have P5 := Lib.hid ((P).ext hE); have Q5 := Lib.hid ((Q).ext hE); have X5 := Lib.hid ((X).ext hE); have Y5 := Lib.hid ((Y).ext hE); obtain ⟨c0, c1, _, _⟩ := P5.out; obtain ⟨c2, c3, _, _⟩ := Q5.out; obtain ⟨d0, d1, g0, g1⟩ := X5.out; obtain ⟨y0, y1, p0, p1⟩ := Y5.out)
      replace E := E.trans hE
      refine bodyPost_ret (v := .tuple #[.agg #[txt m, txt k], .int .i64 0]) (by rw [results_cell_tmp1 rfl]; go_simp) rfl ?_
      exact ⟨by first | (rw [HR.out]; done) | (rw [HR.out]; rfl), extA⟩
    · rw [if_neg h2] at HR
      have c0 : ((((w.alloc (.cells #[txt l, txt h] 24)).alloc (.cells #[txt m, txt k] 24)).alloc (.cells #[.string ⟨#[]⟩, .string ⟨#[]⟩] 24)).alloc (.cells #[txt l, txt h, txt m, txt k] 24)).cell? ⟨w.heap.size, 0, none⟩ = some (txt l) := by go_simp
      have c1 : ((((w.alloc (.cells #[txt l, txt h] 24)).alloc (.cells #[txt m, txt k] 24)).alloc (.cells #[.string ⟨#[]⟩, .string ⟨#[]⟩] 24)).alloc (.cells #[txt l, txt h, txt m, txt k] 24)).cell? ⟨w.heap.size, 1, none⟩ = some (txt h) := by go_simp
      have c2 : ((((w.alloc (.cells #[txt l, txt h] 24)).alloc (.cells #[txt m, txt k] 24)).alloc (.cells #[.string ⟨#[]⟩, .string ⟨#[]⟩] 24)).alloc (.cells #[txt l, txt h, txt m, txt k] 24)).cell? ⟨w.heap.size + 1, 0, none⟩ = some (txt m) := by go_simp
      have c3 : ((((w.alloc (.cells #[txt l, txt h] 24)).alloc (.cells #[txt m, txt k] 24)).alloc (.cells #[.string ⟨#[]⟩, .string ⟨#[]⟩] 24)).alloc (.cells #[txt l, txt h, txt m, txt k] 24)).cell? ⟨w.heap.size + 1, 1, none⟩ = some (txt k) := by go_simp
      have X : EncAt (w.heap.size + 1 + 1) ((((w.alloc (.cells #[txt l, txt h] 24)).alloc (.cells #[txt m, txt k] 24)).alloc (.cells #[.string ⟨#[]⟩, .string ⟨#[]⟩] 24)).alloc (.cells #[txt l, txt h, txt m, txt k] 24)) [] [] := ⟨by go_simp, by go_simp, by go_simp, by go_simp⟩
      have hZ : Ext w ((((w.alloc (.cells #[txt l, txt h] 24)).alloc (.cells #[txt m, txt k] 24)).alloc (.cells #[.string ⟨#[]⟩, .string ⟨#[]⟩] 24)).alloc (.cells #[txt l, txt h, txt m, txt k] 24)) := extA
      have P : EncAt w.heap.size ((((w.alloc (.cells #[txt l, txt h] 24)).alloc (.cells #[txt m, txt k] 24)).alloc (.cells #[.string ⟨#[]⟩, .string ⟨#[]⟩] 24)).alloc (.cells #[txt l, txt h, txt m, txt k] 24)) l h := ⟨c0, c1, by go_simp, by go_simp⟩
      have Q : EncAt (w.heap.size + 1) ((((w.alloc (.cells #[txt l, txt h] 24)).alloc (.cells #[txt m, txt k] 24)).alloc (.cells #[.string ⟨#[]⟩, .string ⟨#[]⟩] 24)).alloc (.cells #[txt l, txt h, txt m, txt k] 24)) m k := ⟨c2, c3, by go_simp, by go_simp⟩
      go_enter Tryz.func30, Tryz.ntmps30
      go_wp2_with (go_at_call 79; (refine (HB.out _ (((w.alloc (.cells #[txt l, txt h] 24)).alloc (.cells #[txt m, txt k] 24)).alloc (.cells #[.string ⟨#[]⟩, .string ⟨#[]⟩] 24)) _ (by simp) rfl extA).mono ?_); rintro e w3 ⟨rfl, hE3⟩; have c0 := hE3.cell c0; have c1 := hE3.cell c1; have c2 := hE3.cell c2; have c3 := hE3.cell c3; have b0 := cell_lt c0; have b1 := cell_lt c2; dsimp only at b0 b1)
      have hA : Ext w3 (w3.alloc (.cells #[txt l, txt h] 24)) := extA
      have Y : EncAt w3.heap.size (w3.alloc (.cells #[txt l, txt h] 24)) l h := ⟨by go_simp, by go_simp, by go_simp, by go_simp⟩
      have s3 : w.heap.size + 1 + 1 < w3.heap.size := cell_lt (X.ext hE3).c0
      have E := (hZ.trans hE3).trans hA
      replace X := (X.ext hE3).ext hA
      replace P := (P.ext hE3).ext hA
      replace Q := (Q.ext hE3).ext hA
      obtain ⟨ob, hob⟩ : ∃ ob, ob = w3.heap.size := ⟨_, rfl⟩
      have n0 : w.heap.size ≠ ob := by omega
      have n1 : w.heap.size + 1 ≠ ob := by omega
      have n2 : w.heap.size + 1 + 1 ≠ ob := by omega
      have hwb : w.heap.size ≤ ob := by omega
      rw [← hob] at Y ⊢
      generalize w3.alloc (.cells #[txt l, txt h] 24) = w4 at Y E X P Q ⊢
      clear hA hE3 hZ s3 hob b0 b1 c0 c1 c2 c3
      go_wp2_with (go_at_call 84; have hh := HO1; clear HO1; (refine (hh.out _ E).mono ?_); clear hh; rintro e w5 ⟨rfl, hE⟩; have P5 := Lib.hid ((P).ext hE); have Q5 := Lib.hid ((Q).ext hE); have X5 := Lib.hid ((X).ext hE); have Y5 := Lib.hid ((Y).ext hE); obtain ⟨c0, c1, _, _⟩ := P5.out; obtain ⟨c2, c3, _, _⟩ := Q5.out; obtain ⟨d0, d1, g0, g1⟩ := X5.out; obtain ⟨y0, y1, p0, p1⟩ := Y5.out)
      replace E := E.trans hE
      clear P Q X Y hE c0 c1 c2 c3 d0 d1 g0 g1 y0 y1 p0 p1
      have P := P5.out.other (o := 0) (v := txt m) n0
      have Q := Q5.out.other (o := 0) (v := txt m) n1
      have X := X5.out.other (o := 0) (v := txt m) n2
      have Y := Y5.out.set0 m
      replace E := E.set hwb (o := 0) (txt m)
      clear P5 Q5 X5 Y5
      go_wp2_with (go_at_call 84; have hh := HO2; clear HO2; (refine (hh.out _ E).mono ?_); clear hh; rintro e w6 ⟨rfl, hE⟩; have P5 := Lib.hid ((P).ext hE); have Q5 := Lib.hid ((Q).ext hE); have X5 := Lib.hid ((X).ext hE); have Y5 := Lib.hid ((Y).ext hE); obtain ⟨c0, c1, _, _⟩ := P5.out; obtain ⟨c2, c3, _, _⟩ := Q5.out; obtain ⟨d0, d1, g0, g1⟩ := X5.out; obtain ⟨y0, y1, p0, p1⟩ := Y5.out)
      replace E := E.trans hE
      refine bodyPost_ret (v := .tuple #[.agg #[txt m, txt h], .int .i64 0]) (by rw [results_cell_tmp1 rfl]; go_simp) rfl ?_
      exact ⟨by first | (rw [HR.out]; done) | (rw [HR.out]; rfl), extA⟩
  · rw [if_neg h1] at HR
    by_cases h2 : 0 < z2
    · rw [if_pos h2] at HR
      have c0 : ((((w.alloc (.cells #[txt l, txt h] 24)).alloc (.cells #[txt m, txt k] 24)).alloc (.cells #[.string ⟨#[]⟩, .string ⟨#[]⟩] 24)).alloc (.cells #[txt l, txt h, txt m, txt k] 24)).cell? ⟨w.heap.size, 0, none⟩ = some (txt l) := by go_simp
      have c1 : ((((w.alloc (.cells #[txt l, txt h] 24)).alloc (.cells #[txt m, txt k] 24)).alloc (.cells #[.string ⟨#[]⟩, .string ⟨#[]⟩] 24)).alloc (.cells #[txt l, txt h, txt m, txt k] 24)).cell? ⟨w.heap.size, 1, none⟩ = some (txt h) := by go_simp
      have c2 : ((((w.alloc (.cells #[txt l, txt h] 24)).alloc (.cells #[txt m, txt k] 24)).alloc (.cells #[.string ⟨#[]⟩, .string ⟨#[]⟩] 24)).alloc (.cells #[txt l, txt h, txt m, txt k] 24)).cell? ⟨w.heap.size + 1, 0, none⟩ = some (txt m) := by go_simp
      have c3 : ((((w.alloc (.cells #[txt l, txt h] 24)).alloc (.cells #[txt m, txt k] 24)).alloc (.cells #[.string ⟨#[]⟩, .string ⟨#[]⟩] 24)).alloc (.cells #[txt l, txt h, txt m, txt k] 24)).cell? ⟨w.heap.size + 1, 1, none⟩ = some (txt k) := by go_simp
      have X : EncAt (w.heap.size + 1 + 1) ((((w.alloc (.cells #[txt l, txt h] 24)).alloc (.cells #[txt m, txt k] 24)).alloc (.cells #[.string ⟨#[]⟩, .string ⟨#[]⟩] 24)).alloc (.cells #[txt l, txt h, txt m, txt k] 24)) [] [] := ⟨by go_simp, by go_simp, by go_simp, by go_simp⟩
      have hZ : Ext w ((((w.alloc (.cells #[txt l, txt h] 24)).alloc (.cells #[txt m, txt k] 24)).alloc (.cells #[.string ⟨#[]⟩, .string ⟨#[]⟩] 24)).alloc (.cells #[txt l, txt h, txt m, txt k] 24)) := extA
      have P : EncAt w.heap.size ((((w.alloc (.cells #[txt l, txt h] 24)).alloc (.cells #[txt m, txt k] 24)).alloc (.cells #[.string ⟨#[]⟩, .string ⟨#[]⟩] 24)).alloc (.cells #[txt l, txt h, txt m, txt k] 24)) l h := ⟨c0, c1, by go_simp, by go_simp⟩
      have Q : EncAt (w.heap.size + 1) ((((w.alloc (.cells #[txt l, txt h] 24)).alloc (.cells #[txt m, txt k] 24)).alloc (.cells #[.string ⟨#[]⟩, .string ⟨#[]⟩] 24)).alloc (.cells #[txt l, txt h, txt m, txt k] 24)) m k := ⟨c2, c3, by go_simp, by go_simp⟩
      go_enter Tryz.func30, Tryz.ntmps30
      go_wp2_with (go_at_call 79; (refine (HB.out _ (((w.alloc (.cells #[txt l, txt h] 24)).alloc (.cells #[txt m, txt k] 24)).alloc (.cells #[.string ⟨#[]⟩, .string ⟨#[]⟩] 24)) _ (by simp) rfl extA).mono ?_); rintro e w3 ⟨rfl, hE3⟩; have c0 := hE3.cell c0; have c1 := hE3.cell c1; have c2 := hE3.cell c2; have c3 := hE3.cell c3; have b0 := cell_lt c0; have b1 := cell_lt c2; dsimp only at b0 b1)
      have hA : Ext w3 (w3.alloc (.cells #[txt l, txt h] 24)) := extA
      have Y : EncAt w3.heap.size (w3.alloc (.cells #[txt l, txt h] 24)) l h := ⟨by go_simp, by go_simp, by go_simp, by go_simp⟩
      have s3 : w.heap.size + 1 + 1 < w3.heap.size := cell_lt (X.ext hE3).c0
      have E := (hZ.trans hE3).trans hA
      replace X := (X.ext hE3).ext hA
      replace P := (P.ext hE3).ext hA
      replace Q := (Q.ext hE3).ext hA
      obtain ⟨ob, hob⟩ : ∃ ob, ob = w3.heap.size := ⟨_, rfl⟩
      have n0 : w.heap.size ≠ ob := by omega
      have n1 : w.heap.size + 1 ≠ ob := by omega
      have n2 : w.heap.size + 1 + 1 ≠ ob := by omega
      have hwb : w.heap.size ≤ ob := by omega
      rw [← hob] at Y ⊢
      generalize w3.alloc (.cells #[txt l, txt h] 24) = w4 at Y E X P Q ⊢
      clear hA hE3 hZ s3 hob b0 b1 c0 c1 c2 c3
      go_wp2_with (go_at_call 84; have hh := HO1; clear HO1; (refine (hh.out _ E).mono ?_); clear hh; rintro e w5 ⟨rfl, hE⟩; have P5 := Lib.hid ((P).ext hE); have Q5 := Lib.hid ((Q).ext hE); have X5 := Lib.hid ((X).ext hE); have Y5 := Lib.hid ((Y).ext hE); obtain ⟨c0, c1, _, _⟩ := P5.out; obtain ⟨c2, c3, _, _⟩ := Q5.out; obtain ⟨d0, d1, g0, g1⟩ := X5.out; obtain ⟨y0, y1, p0, p1⟩ := Y5.out)
      replace E := E.trans hE
      clear P Q X Y hE c0 c1 c2 c3 d0 d1 g0 g1 y0 y1 p0 p1
      have P := P5.out
      have Q := Q5.out
      have X := X5.out
      have Y := Y5.out
      clear P5 Q5 X5 Y5
      go_wp2_with (go_at_call 84; have hh := HO2; clear HO2; (refine (hh.out _ E).mono ?_); clear hh; rintro e w6 ⟨rfl, hE⟩; have P5 := Lib.hid ((P).ext hE); have Q5 := Lib.hid ((Q).ext hE); have X5 := Lib.hid ((X).ext hE); have Y5 := Lib.hid ((Y).ext hE); obtain ⟨c0, c1, _, _⟩ := P5.out; obtain ⟨c2, c3, _, _⟩ := Q5.out; obtain ⟨d0, d1, g0, g1⟩ := X5.out; obtain ⟨y0, y1, p0, p1⟩ := Y5.out)
      replace E := E.trans hE
      refine bodyPost_ret (v := .tuple #[.agg #[txt l, txt k], .int .i64 0]) (by rw [results_cell_tmp1 rfl]; go_simp) rfl ?_
      exact ⟨by first | (rw [HR.out]; done) | (rw [HR.out]; rfl), extA⟩
    · rw [if_neg h2] at HR
      have c0 : ((((w.alloc (.cells #[txt l, txt h] 24)).alloc (.cells #[txt m, txt k] 24)).alloc (.cells #[.string ⟨#[]⟩, .string ⟨#[]⟩] 24)).alloc (.cells #[txt l, txt h, txt m, txt k] 24)).cell? ⟨w.heap.size, 0, none⟩ = some (txt l) := by go_simp
      have c1 : ((((w.alloc (.cells #[txt l, txt h] 24)).alloc (.cells #[txt m, txt k] 24)).alloc (.cells #[.string ⟨#[]⟩, .string ⟨#[]⟩] 24)).alloc (.cells #[txt l, txt h, txt m, txt k] 24)).cell? ⟨w.heap.size, 1, none⟩ = some (txt h) := by go_simp
      have c2 : ((((w.alloc (.cells #[txt l, txt h] 24)).alloc (.cells #[txt m, txt k] 24)).alloc (.cells #[.string ⟨#[]⟩, .string ⟨#[]⟩] 24)).alloc (.cells #[txt l, txt h, txt m, txt k] 24)).cell? ⟨w.heap.size + 1, 0, none⟩ = some (txt m) := by go_simp
      have c3 : ((((w.alloc (.cells #[txt l, txt h] 24)).alloc (.cells #[txt m, txt k] 24)).alloc (.cells #[.string ⟨#[]⟩, .string ⟨#[]⟩] 24)).alloc (.cells #[txt l, txt h, txt m, txt k] 24)).cell? ⟨w.heap.size + 1, 1, none⟩ = some (txt k) := by go_simp
      have X : EncAt (w.heap.size + 1 + 1) ((((w.alloc (.cells #[txt l, txt h] 24)).alloc (.cells #[txt m, txt k] 24)).alloc (.cells #[.string ⟨#[]⟩, .string ⟨#[]⟩] 24)).alloc (.cells #[txt l, txt h, txt m, txt k] 24)) [] [] := ⟨by go_simp, by go_simp, by go_simp, by go_simp⟩
      have hZ : Ext w ((((w.alloc (.cells #[txt l, txt h] 24)).alloc (.cells #[txt m, txt k] 24)).alloc (.cells #[.string ⟨#[]⟩, .string ⟨#[]⟩] 24)).alloc (.cells #[txt l, txt h, txt m, txt k] 24)) := extA
      have P : EncAt w.heap.size ((((w.alloc (.cells #[txt l, txt h] 24)).alloc (.cells #[txt m, txt k] 24)).alloc (.cells #[.string ⟨#[]⟩, .string ⟨#[]⟩] 24)).alloc (.cells #[txt l, txt h, txt m, txt k] 24)) l h := ⟨c0, c1, by go_simp, by go_simp⟩
      have Q : EncAt (w.heap.size + 1) ((((w.alloc (.cells #[txt l, txt h] 24)).alloc (.cells #[txt m, txt k] 24)).alloc (.cells #[.string ⟨#[]⟩, .string ⟨#[]⟩] 24)).alloc (.cells #[txt l, txt h, txt m, txt k] 24)) m k := ⟨c2, c3, by go_simp, by go_simp⟩
      go_enter Tryz.func30, Tryz.ntmps30
      go_wp2_with (go_at_call 79; (refine (HB.out _ (((w.alloc (.cells #[txt l, txt h] 24)).alloc (.cells #[txt m, txt k] 24)).alloc (.cells #[.string ⟨#[]⟩, .string ⟨#[]⟩] 24)) _ (by simp) rfl extA).mono ?_); rintro e w3 ⟨rfl, hE3⟩; have c0 := hE3.cell c0; have c1 := hE3.cell c1; have c2 := hE3.cell c2; have c3 := hE3.cell c3; have b0 := cell_lt c0; have b1 := cell_lt c2; dsimp only at b0 b1)
      have hA : Ext w3 (w3.alloc (.cells #[txt l, txt h] 24)) := extA
      have Y : EncAt w3.heap.size (w3.alloc (.cells #[txt l, txt h] 24)) l h := ⟨by go_simp, by go_simp, by go_simp, by go_simp⟩
      have s3 : w.heap.size + 1 + 1 < w3.heap.size := cell_lt (X.ext hE3).c0
      have E := (hZ.trans hE3).trans hA
      replace X := (X.ext hE3).ext hA
      replace P := (P.ext hE3).ext hA
      replace Q := (Q.ext hE3).ext hA
      obtain ⟨ob, hob⟩ : ∃ ob, ob = w3.heap.size := ⟨_, rfl⟩
      have n0 : w.heap.size ≠ ob := by omega
      have n1 : w.heap.size + 1 ≠ ob := by omega
      have n2 : w.heap.size + 1 + 1 ≠ ob := by omega
      have hwb : w.heap.size ≤ ob := by omega
      rw [← hob] at Y ⊢
      generalize w3.alloc (.cells #[txt l, txt h] 24) = w4 at Y E X P Q ⊢
      clear hA hE3 hZ s3 hob b0 b1 c0 c1 c2 c3
      go_wp2_with (go_at_call 84; have hh := HO1; clear HO1; (refine (hh.out _ E).mono ?_); clear hh; rintro e w5 ⟨rfl, hE⟩; have P5 := Lib.hid ((P).ext hE); have Q5 := Lib.hid ((Q).ext hE); have X5 := Lib.hid ((X).ext hE); have Y5 := Lib.hid ((Y).ext hE); obtain ⟨c0, c1, _, _⟩ := P5.out; obtain ⟨c2, c3, _, _⟩ := Q5.out; obtain ⟨d0, d1, g0, g1⟩ := X5.out; obtain ⟨y0, y1, p0, p1⟩ := Y5.out)
      replace E := E.trans hE
      clear P Q X Y hE c0 c1 c2 c3 d0 d1 g0 g1 y0 y1 p0 p1
      have P := P5.out
      have Q := Q5.out
      have X := X5.out
      have Y := Y5.out
      clear P5 Q5 X5 Y5
      go_wp2_with (go_at_call 84; have hh := HO2; clear HO2; (refine (hh.out _ E).mono ?_); clear hh; rintro e w6 ⟨rfl, hE⟩; have P5 := Lib.hid ((P).ext hE); have Q5 := Lib.hid ((Q).ext hE); have X5 := Lib.hid ((X).ext hE); have Y5 := Lib.hid ((Y).ext hE); obtain ⟨c0, c1, _, _⟩ := P5.out; obtain ⟨c2, c3, _, _⟩ := Q5.out; obtain ⟨d0, d1, g0, g1⟩ := X5.out; obtain ⟨y0, y1, p0, p1⟩ := Y5.out)
      replace E := E.trans hE
      refine bodyPost_ret (v := .tuple #[.agg #[txt l, txt h], .int .i64 0]) (by rw [results_cell_tmp1 rfl]; go_simp) rfl ?_
      exact ⟨by first | (rw [HR.out]; done) | (rw [HR.out]; rfl), extA⟩
end Go.Proofs.YtdejgaiocjfhjaaGreatDoor
namespace Go.Proofs.YtdejgaiocjfhjaaGreatDoor
open Go.RowKit
def fourE (l : List Txt) (E : Nat) : EncR := if E ≠ 0 then badEnc E else ((lowL (l.getD 0 []) l, highL (l.getD 0 []) l), 0)
theorem lowL_take {x : Txt} {l : List Txt} {k : Nat} (h : k < l.length) : lowL x (l.take (k + 1)) = if ordQ (l.getD k []) (lowL x (l.take k)) < 0 then l.getD k [] else lowL x (l.take k) := by
  unfold lowL
  rw [List.take_add_one, List.getElem?_eq_getElem h, List.foldl_append, List.getD_eq_getElem?_getD, List.getElem?_eq_getElem h]
  rfl
theorem highL_take {x : Txt} {l : List Txt} {k : Nat} (h : k < l.length) : highL x (l.take (k + 1)) = if 0 < ordQ (l.getD k []) (highL x (l.take k)) then l.getD k [] else highL x (l.take k) := by
  unfold highL
  rw [List.take_add_one, List.getElem?_eq_getElem h, List.foldl_append, List.getD_eq_getElem?_getD, List.getElem?_eq_getElem h]
  rfl
theorem lowL_mem (x : Txt) (l : List Txt) : lowL x l = x ∨ lowL x l ∈ l := by
  induction l generalizing x with
  | nil => exact .inl rfl
  | cons a l ih =>
    have e : lowL x (a :: l) = lowL (if ordQ a x < 0 then a else x) l := rfl
    rw [e]
    rcases ih (if ordQ a x < 0 then a else x) with h | h
    · rw [h]; split
      · exact .inr (List.mem_cons_self ..)
      · exact .inl rfl
    · exact .inr (List.mem_cons_of_mem _ h)
theorem highL_mem (x : Txt) (l : List Txt) : highL x l = x ∨ highL x l ∈ l := by
  induction l generalizing x with
  | nil => exact .inl rfl
  | cons a l ih =>
    have e : highL x (a :: l) = highL (if 0 < ordQ a x then a else x) l := rfl
    rw [e]
    rcases ih (if 0 < ordQ a x then a else x) with h | h
    · rw [h]; split
      · exact .inr (List.mem_cons_self ..)
      · exact .inl rfl
    · exact .inr (List.mem_cons_of_mem _ h)
theorem getD_memT {l : List Txt} {k : Nat} (h : k < l.length) : l.getD k [] ∈ l := by
  rw [List.getD_eq_getElem?_getD, List.getElem?_eq_getElem h]; exact List.getElem_mem h
structure FourV (g : Nat) (W : World) (l : List Txt) (E : Nat) (a : Option Addr) (cap : Nat) : Prop where
  c0 : W.cell? ⟨g, 0, none⟩ = some (.slice a l.length cap)
  c1 : W.cell? ⟨g, 1, none⟩ = some (.int .i64 (E : Nat))
  cs : CellsT W a l
theorem FourV.ext {g : Nat} {A B : World} {l : List Txt} {E : Nat} {a : Option Addr} {cap : Nat} (x : FourV g A l E a cap) (e : Ext A B) : FourV g B l E a cap := ⟨e.cell x.c0, e.cell x.c1, x.cs.ext e⟩
set_option maxHeartbeats 8000000 in
set_option maxRecDepth 100000 in
theorem rEndsV_any (g : Nat) (l : List Txt) (E : Nat) (a : Option Addr) (cap : Nat) (w : World) (x : FourV g w l E a cap) (h0 : 0 < l.length) (hl : l.length ≤ 100) (hr : E = 0 → ∀ x ∈ l, fracE x = 0) :
    Calls Tryz.prog 77 #[.pointer (some ⟨g, 0, none⟩)] w (EncP (fourE l E) w) := by
  unfold EncP
  obtain ⟨C, hC⟩ : ∃ C, C = fourE l E := ⟨_, rfl⟩
  rw [← hC]
  unfold fourE at hC
  have hz : g < w.heap.size := cell_lt x.c0
  by_cases hE : E = 0
  rotate_left
  · rw [if_pos hE] at hC
    have HR : Hid (C = (([], []), E)) := hC
    have hne : (((E : Nat) : Int) != 0) = true := by rw [bne_iff_ne]; omega
    obtain ⟨c0, c1, _⟩ := x
    clear hC hr
    have X : EncAt w.heap.size (w.alloc (.cells #[.string ⟨#[]⟩, .string ⟨#[]⟩] 24)).drew [] [] := ⟨by go_simp, by go_simp, by go_simp, by go_simp⟩
    have E1 : Ext w (w.alloc (.cells #[.string ⟨#[]⟩, .string ⟨#[]⟩] 24)).drew := extA
    have hS := E1.cell c1
    go_enter Tryz.func77, Tryz.ntmps77
    go_wp2_with fail
    refine wp_region_heldE 99 (fun w' => w'.cell? ⟨g, 1, none⟩ = some (.int .i64 (E : Nat))) (by kernel_rfl) ?_
    clear c0 c1
    generalize (w.alloc (.cells #[.string ⟨#[]⟩, .string ⟨#[]⟩] 24)).drew = w1 at X E1 hS ⊢
    obtain ⟨d0, d1, g0, g1⟩ := X
    ((refine eTk 0 ?_); (refine eTk 1 ?_); (refine eTk 2 ?_); (refine eTk 3 ?_); (refine eTk 4 ?_))
    (refine wpAnyE_one (i := 5) (o := ?_) ?_ (by kernel_rfl) (fun K hK => ?_); rotate_left; (focus ((simp only [List.getElem?_toArray, List.getElem?_cons_succ, List.getElem?_cons_zero]; exact rfl))); go_simp; refine hK.out _ _ ?_ (fun hHeld => ?_); rotate_left; clear hK K; (try simp only [Act.put, List.setIfInBounds_toArray, List.set_cons_zero, List.set_cons_succ]))
    rotate_left
    · go_simp
    ((refine ePu 6 ?_))
    refine wpAnyE_done (by kernel_rfl) ?_ _
    go_wp2_with fail
    refine bodyPost_ret (v := .tuple #[.agg #[txt [], txt []], .int .i64 (E : Nat)]) (by rw [results_cell_tmp1 rfl]; go_simp) rfl ?_
    exact ⟨by first | (rw [HR.out]; done) | (rw [HR.out]; rfl), extA⟩
  subst hE
  rw [if_neg (by decide)] at hC
  have HR := Lib.hid hC
  clear hC
  have hcs := x.cs
  have HX := Lib.hid x
  have HCS := Lib.hid hcs
  have HER := Lib.hid (hr rfl)
  clear hr
  obtain ⟨c0, c1, _⟩ := x
  obtain ⟨b, off, ha, k0⟩ := hcs 0 h0
  subst ha
  clear hcs
  rw [Nat.add_zero] at k0
  have hb : b < w.heap.size := cell_lt k0
  obtain ⟨x0, hx0⟩ : ∃ x0, x0 = l.getD 0 [] := ⟨_, rfl⟩
  rw [← hx0] at HR k0
  have HX0 := Lib.hid hx0
  clear hx0
  have X : EncAt w.heap.size (w.alloc (.cells #[.string ⟨#[]⟩, .string ⟨#[]⟩] 24)).drew [] [] := ⟨by go_simp, by go_simp, by go_simp, by go_simp⟩
  have E1 : Ext w (w.alloc (.cells #[.string ⟨#[]⟩, .string ⟨#[]⟩] 24)).drew := extA
  have hS : (w.alloc (.cells #[.string ⟨#[]⟩, .string ⟨#[]⟩] 24)).drew.cell? ⟨g, 0, none⟩ = some (.slice (some ⟨b, off, none⟩) l.length cap) ∧ (w.alloc (.cells #[.string ⟨#[]⟩, .string ⟨#[]⟩] 24)).drew.cell? ⟨b, off, none⟩ = some (txt x0) := ⟨E1.cell c0, E1.cell k0⟩
  have h0i : (0 : Int) < (l.length : Int) := by omega
  go_enter Tryz.func77, Tryz.ntmps77
  go_wp2_with fail
  refine wp_region_heldE 99 (fun w' => w'.cell? ⟨g, 0, none⟩ = some (.slice (some ⟨b, off, none⟩) l.length cap) ∧ w'.cell? ⟨b, off, none⟩ = some (txt x0)) (by kernel_rfl) ?_
  clear c0 c1 k0
  generalize (w.alloc (.cells #[.string ⟨#[]⟩, .string ⟨#[]⟩] 24)).drew = w1 at X E1 hS ⊢
  have hz1 := cell_lt X.c0
  dsimp only at hz1
  ((refine eTk 0 ?_); (refine eTk 1 ?_); (refine eTk 2 ?_); (refine eTk 3 ?_); (refine eTk 4 ?_); (refine eTk 5 ?_); (refine eTk 6 ?_); (refine eTk 7 ?_); (refine eTk 8 ?_); (refine eTk 9 ?_); (refine eTk 10 ?_); (refine eTk 11 ?_); (refine eTk 12 ?_))
  have s1 := hS.1
  have s2 := hS.2
  have z1 := cell_lt s1
  have z2 := cell_lt s2
  dsimp only at z1 z2
  (refine wpAnyE_one (i := 13) (o := ?_) ?_ (by kernel_rfl) (fun K hK => ?_); rotate_left; (focus ((simp only [List.getElem?_toArray, List.getElem?_cons_succ, List.getElem?_cons_zero]; exact rfl))); go_simp; refine hK.out _ _ ?_ (fun hHeld => ?_); rotate_left; clear hK K; (try simp only [Act.put, List.setIfInBounds_toArray, List.set_cons_zero, List.set_cons_succ]))
  rotate_left
  · exact ⟨by go_simp, by go_simp⟩
  have Y : EncAt w1.heap.size (w1.alloc (.cells #[.string ⟨#[]⟩, .string ⟨#[]⟩] 24)) [] [] := ⟨by go_simp, by go_simp, by go_simp, by go_simp⟩
  have E2 : Ext w1 (w1.alloc (.cells #[.string ⟨#[]⟩, .string ⟨#[]⟩] 24)) := extA
  have X2 := X.ext E2
  replace E1 := E1.trans E2
  replace hS := And.intro (E2.cell s1) (E2.cell s2)
  have hob : w.heap.size < w1.heap.size := hz1
  clear E2 X hHeld s1 s2 z1 z2 hz1
  obtain ⟨ob, hobe⟩ : ∃ ob, ob = w1.heap.size := ⟨_, rfl⟩
  rw [← hobe] at Y hob ⊢
  generalize (w1.alloc (.cells #[.string ⟨#[]⟩, .string ⟨#[]⟩] 24)) = w2 at X2 Y E1 hS ⊢
  clear hobe
  have Y0 := Y
  obtain ⟨y0, y1, p0, p1⟩ := Y0
  (refine wpAnyE_one (i := 14) (o := ?_) ?_ (by kernel_rfl) (fun K hK => ?_); rotate_left; (focus ((simp only [List.getElem?_toArray, List.getElem?_cons_succ, List.getElem?_cons_zero]; exact rfl))); go_simp; refine hK.out _ _ ?_ (fun hHeld => ?_); rotate_left; clear hK K; (try simp only [Act.put, List.setIfInBounds_toArray, List.set_cons_zero, List.set_cons_succ]))
  rotate_left
  · exact ⟨by rw [World.cell?_setCell_other _ _ _ _ (fun h => by simp only [Addr.mk.injEq] at h; omega), World.cell?_setCell_other _ _ _ _ (fun h => by simp only [Addr.mk.injEq] at h; omega)]; exact hS.1, by rw [World.cell?_setCell_other _ _ _ _ (fun h => by simp only [Addr.mk.injEq] at h; omega), World.cell?_setCell_other _ _ _ _ (fun h => by simp only [Addr.mk.injEq] at h; omega)]; exact hS.2⟩
  refine wpAnyE_done (by kernel_rfl) ?_ _
  clear hHeld hS y0 y1 p0 p1
  replace Y := (Y.set0 x0).set1 x0
  replace X2 := (X2.other (c := ob) (o := 0) (v := txt x0) (by omega)).other (c := ob) (o := 1) (v := txt x0) (by omega)
  replace E1 := (E1.set (b := ob) (o := 0) (by omega) (txt x0)).set (b := ob) (o := 1) (by omega) (txt x0)
  generalize ((w2.setCell ⟨ob, 0, none⟩ (txt x0)).setCell ⟨ob, 1, none⟩ (txt x0)) = w3 at X2 Y E1 ⊢
  go_wp2
  go_loopw [5] (fun i wr => ∃ k : Nat, i = .int .i64 (k : Nat) ∧ k ≤ l.length ∧ Hid (EncAt ob wr (lowL x0 (l.take k)) (highL x0 (l.take k))) ∧ Hid (EncAt w.heap.size wr [] []) ∧ Ext w wr) (fun i _ => l.length - (intOf i).toNat)
  case atStart => exact ⟨0, rfl, by omega, Y, X2, E1⟩
  case round =>
    obtain ⟨k, rfl, hk, hY, hX2, he⟩ := hrel
    have c0 := (HX.out.ext he).c0
    by_cases hkl : k < l.length
    · obtain ⟨b', off', hab, ck⟩ := HCS.out.ext he k hkl
      cases hab
      obtain ⟨t, ht⟩ : ∃ t, t = l.getD k [] := ⟨_, rfl⟩
      obtain ⟨lo, hlo⟩ : ∃ lo, lo = lowL x0 (l.take k) := ⟨_, rfl⟩
      obtain ⟨hi, hhi⟩ : ∃ hi, hi = highL x0 (l.take k) := ⟨_, rfl⟩
      have HL : Hid (lowL x0 (l.take (k + 1)) = if ordQ t lo < 0 then t else lo) := by show _ = _; rw [lowL_take hkl, ht, hlo]
      have HH : Hid (highL x0 (l.take (k + 1)) = if 0 < ordQ t hi then t else hi) := by show _ = _; rw [highL_take hkl, ht, hhi]
      have e0 : fracE x0 = 0 := by rw [HX0.out]; exact HER.out _ (getD_memT h0)
      have e1 : fracE t = 0 := by rw [ht]; exact HER.out _ (getD_memT hkl)
      have e2 : fracE lo = 0 := by
        rw [hlo]
        rcases lowL_mem x0 (l.take k) with h | h
        · rw [h]; exact e0
        · exact HER.out _ (List.mem_of_mem_take h)
      have e3 : fracE hi = 0 := by
        rw [hhi]
        rcases highL_mem x0 (l.take k) with h | h
        · rw [h]; exact e0
        · exact HER.out _ (List.mem_of_mem_take h)
      have HO1 : Hid (∀ W, Calls Tryz.prog 72 #[txt t, txt lo] W fun e w' => e = .returned (.int .i64 (ordQ t lo)) ∧ Ext W w') := fun W => rOrder_any t lo W e1 e2 (len_right e1) (len_right e2)
      have HO2 : Hid (∀ W, Calls Tryz.prog 72 #[txt t, txt hi] W fun e w' => e = .returned (.int .i64 (ordQ t hi)) ∧ Ext W w') := fun W => rOrder_any t hi W e1 e3 (len_right e1) (len_right e3)
      rw [← ht] at ck
      rw [← hlo, ← hhi] at hY
      clear e0 e1 e2 e3 ht hlo hhi
      have hki : (k : Int) < (l.length : Int) := by omega
      have hw1 : IntKind.i64.wrap ((k : Int) + 1) = (k : Int) + 1 := by rw [IntKind.wrap_i64]; omega
      generalize ordQ t lo = q1 at *
      generalize ordQ t hi = q2 at *
      have Y := hY.out
      have y0 := Y.c0
      clear hY
      go_wp2_with fail
      have hD : Ext wr wr.drew := extA
      have hS : wr.drew.cell? ⟨g, 0, none⟩ = some (.slice (some ⟨b, off, none⟩) l.length cap) ∧ wr.drew.cell? ⟨b, off + k, none⟩ = some (txt t) ∧ wr.drew.cell? ⟨ob, 0, none⟩ = some (txt lo) := ⟨hD.cell c0, hD.cell ck, hD.cell y0⟩
      refine wp_region_heldE 99 (fun w' => w'.cell? ⟨g, 0, none⟩ = some (.slice (some ⟨b, off, none⟩) l.length cap) ∧ w'.cell? ⟨b, off + k, none⟩ = some (txt t) ∧ w'.cell? ⟨ob, 0, none⟩ = some (txt lo)) (by kernel_rfl) ?_
      have hd := hD
      generalize wr.drew = w4 at hD hS ⊢
      clear hd c0 ck y0
      ((refine eTk 0 ?_); (refine eTk 1 ?_); (refine eTk 2 ?_); (refine eTk 3 ?_); (refine eTk 4 ?_); (refine eTk 5 ?_); (refine eTk 6 ?_); (refine eTk 7 ?_); (refine eTk 8 ?_))
      (refine wpAnyE_one (i := 9) (o := ?_) ?_ (by kernel_rfl) (fun K hK => ?_); rotate_left; (focus ((simp only [List.getElem?_toArray, List.getElem?_cons_succ, List.getElem?_cons_zero]; exact rfl))); go_simp; go_at_call 72; refine (HO1.out _).mono ?_; rintro e w5 ⟨rfl, hE⟩; go_wp2_with fail; refine hK.out _ _ ?_ (fun hHeld => ?_); rotate_left; clear hK K; (try simp only [Act.put, List.setIfInBounds_toArray, List.set_cons_zero, List.set_cons_succ]))
      rotate_left
      · exact ⟨hE.cell hS.1, hE.cell hS.2.1, hE.cell hS.2.2⟩
      replace hD := hD.trans hE
      replace hS := And.intro (hE.cell hS.1) (And.intro (hE.cell hS.2.1) (hE.cell hS.2.2))
      clear hE hHeld
      ((refine ePu 10 ?_))
      refine wpAnyE_done (by kernel_rfl) ?_ _
      have c0 := hS.1
      have ck := hS.2.1
      clear hS
      replace Y := Y.ext hD
      replace hX2 := Lib.hid (hX2.out.ext hD)
      replace he := he.trans hD
      clear hD HO1
      by_cases h1 : q1 < 0
      · have HL2 := Lib.hid (HL.out.trans (if_pos h1))
        have Y2 := Y.set0 t
        have X2' := Lib.hid (hX2.out.other (c := ob) (o := 0) (v := txt t) (by omega))
        have he2 := he.set (b := ob) (o := 0) (by omega) (txt t)
        have c02 : (w5.setCell ⟨ob, 0, none⟩ (txt t)).cell? ⟨g, 0, none⟩ = some (.slice (some ⟨b, off, none⟩) l.length cap) := by rw [World.cell?_setCell_other _ _ _ _ (fun h => by simp only [Addr.mk.injEq] at h; omega)]; exact c0
        have ck2 : (w5.setCell ⟨ob, 0, none⟩ (txt t)).cell? ⟨b, off + k, none⟩ = some (txt t) := by rw [World.cell?_setCell_other _ _ _ _ (fun h => by simp only [Addr.mk.injEq] at h; omega)]; exact ck
        obtain ⟨y0, y1, p0, p1⟩ := Y
        go_wp2_with fail
        clear y0 y1 p0 p1 c0 ck hX2 he
        generalize (w5.setCell ⟨ob, 0, none⟩ (txt t)) = w6 at Y2 X2' he2 c02 ck2 ⊢
        have Y := Y2
        have hX2 := X2'
        have he := he2
        have c0 := c02
        have ck := ck2
        clear Y2 X2' he2 c02 ck2
        have y1 := Y.c1
        have hD : Ext w6 w6.drew := extA
        have hS : w6.drew.cell? ⟨g, 0, none⟩ = some (.slice (some ⟨b, off, none⟩) l.length cap) ∧ w6.drew.cell? ⟨b, off + k, none⟩ = some (txt t) ∧ w6.drew.cell? ⟨ob, 1, none⟩ = some (txt hi) := ⟨hD.cell c0, hD.cell ck, hD.cell y1⟩
        refine wp_region_heldE 99 (fun w' => w'.cell? ⟨g, 0, none⟩ = some (.slice (some ⟨b, off, none⟩) l.length cap) ∧ w'.cell? ⟨b, off + k, none⟩ = some (txt t) ∧ w'.cell? ⟨ob, 1, none⟩ = some (txt hi)) (by kernel_rfl) ?_
        have hd := hD
        generalize w6.drew = w7 at hD hS ⊢
        clear hd c0 ck y1
        ((refine eTk 0 ?_); (refine eTk 1 ?_); (refine eTk 2 ?_); (refine eTk 3 ?_); (refine eTk 4 ?_); (refine eTk 5 ?_); (refine eTk 6 ?_); (refine eTk 7 ?_); (refine eTk 8 ?_))
        (refine wpAnyE_one (i := 9) (o := ?_) ?_ (by kernel_rfl) (fun K hK => ?_); rotate_left; (focus ((simp only [List.getElem?_toArray, List.getElem?_cons_succ, List.getElem?_cons_zero]; exact rfl))); go_simp; go_at_call 72; refine (HO2.out _).mono ?_; rintro e w8 ⟨rfl, hE⟩; go_wp2_with fail; refine hK.out _ _ ?_ (fun hHeld => ?_); rotate_left; clear hK K; (try simp only [Act.put, List.setIfInBounds_toArray, List.set_cons_zero, List.set_cons_succ]))
        rotate_left
        · exact ⟨hE.cell hS.1, hE.cell hS.2.1, hE.cell hS.2.2⟩
        replace hD := hD.trans hE
        replace hS := And.intro (hE.cell hS.1) (And.intro (hE.cell hS.2.1) (hE.cell hS.2.2))
        clear hE hHeld
        ((refine ePu 10 ?_))
        refine wpAnyE_done (by kernel_rfl) ?_ _
        have c0 := hS.1
        have ck := hS.2.1
        clear hS
        replace Y := Y.ext hD
        replace hX2 := Lib.hid (hX2.out.ext hD)
        replace he := he.trans hD
        clear hD HO2
        have hkl2 : k + 1 ≤ l.length := hkl
        have hms : l.length - (k + 1) < l.length - k := by omega
        by_cases h2 : 0 < q2
        · have HH2 := Lib.hid (HH.out.trans (if_pos h2))
          have Y2 := Lib.hid (Y.set1 t)
          have X2' := Lib.hid (hX2.out.other (c := ob) (o := 1) (v := txt t) (by omega))
          have he2 := he.set (b := ob) (o := 1) (by omega) (txt t)
          obtain ⟨y0, y1, p0, p1⟩ := Y
          go_wp2
          refine ⟨⟨k + 1, by go_num, hkl2, ?_, X2'.out, he2⟩, by simp [intOf]; omega⟩
          rw [HL2.out, HH2.out]; exact Y2.out
        · have HH2 := Lib.hid (HH.out.trans (if_neg h2))
          have Y2 := Lib.hid Y
          obtain ⟨y0, y1, p0, p1⟩ := Y
          go_wp2
          refine ⟨⟨k + 1, by go_num, hkl2, ?_, hX2, he⟩, by simp [intOf]; omega⟩
          rw [HL2.out, HH2.out]; exact Y2.out
      · have HL2 := Lib.hid (HL.out.trans (if_neg h1))
        have Y2 := Y
        obtain ⟨y0, y1, p0, p1⟩ := Y
        go_wp2_with fail
        clear y0 y1 p0 p1
        have Y := Y2
        clear Y2
        obtain ⟨w6, hw6⟩ : ∃ w6, w6 = w5 := ⟨_, rfl⟩
        rw [← hw6] at c0 ck Y hX2 he ⊢
        clear hw6
        have y1 := Y.c1
        have hD : Ext w6 w6.drew := extA
        have hS : w6.drew.cell? ⟨g, 0, none⟩ = some (.slice (some ⟨b, off, none⟩) l.length cap) ∧ w6.drew.cell? ⟨b, off + k, none⟩ = some (txt t) ∧ w6.drew.cell? ⟨ob, 1, none⟩ = some (txt hi) := ⟨hD.cell c0, hD.cell ck, hD.cell y1⟩
        refine wp_region_heldE 99 (fun w' => w'.cell? ⟨g, 0, none⟩ = some (.slice (some ⟨b, off, none⟩) l.length cap) ∧ w'.cell? ⟨b, off + k, none⟩ = some (txt t) ∧ w'.cell? ⟨ob, 1, none⟩ = some (txt hi)) (by kernel_rfl) ?_
        have hd := hD
        generalize w6.drew = w7 at hD hS ⊢
        clear hd c0 ck y1
        ((refine eTk 0 ?_); (refine eTk 1 ?_); (refine eTk 2 ?_); (refine eTk 3 ?_); (refine eTk 4 ?_); (refine eTk 5 ?_); (refine eTk 6 ?_); (refine eTk 7 ?_); (refine eTk 8 ?_))
        (refine wpAnyE_one (i := 9) (o := ?_) ?_ (by kernel_rfl) (fun K hK => ?_); rotate_left; (focus ((simp only [List.getElem?_toArray, List.getElem?_cons_succ, List.getElem?_cons_zero]; exact rfl))); go_simp; go_at_call 72; refine (HO2.out _).mono ?_; rintro e w8 ⟨rfl, hE⟩; go_wp2_with fail; refine hK.out _ _ ?_ (fun hHeld => ?_); rotate_left; clear hK K; (try simp only [Act.put, List.setIfInBounds_toArray, List.set_cons_zero, List.set_cons_succ]))
        rotate_left
        · exact ⟨hE.cell hS.1, hE.cell hS.2.1, hE.cell hS.2.2⟩
        replace hD := hD.trans hE
        replace hS := And.intro (hE.cell hS.1) (And.intro (hE.cell hS.2.1) (hE.cell hS.2.2))
        clear hE hHeld
        ((refine ePu 10 ?_))
        refine wpAnyE_done (by kernel_rfl) ?_ _
        have c0 := hS.1
        have ck := hS.2.1
        clear hS
        replace Y := Y.ext hD
        replace hX2 := Lib.hid (hX2.out.ext hD)
        replace he := he.trans hD
        clear hD HO2
        have hkl2 : k + 1 ≤ l.length := hkl
        have hms : l.length - (k + 1) < l.length - k := by omega
        by_cases h2 : 0 < q2
        · have HH2 := Lib.hid (HH.out.trans (if_pos h2))
          have Y2 := Lib.hid (Y.set1 t)
          have X2' := Lib.hid (hX2.out.other (c := ob) (o := 1) (v := txt t) (by omega))
          have he2 := he.set (b := ob) (o := 1) (by omega) (txt t)
          obtain ⟨y0, y1, p0, p1⟩ := Y
          go_wp2
          refine ⟨⟨k + 1, by go_num, hkl2, ?_, X2'.out, he2⟩, by simp [intOf]; omega⟩
          rw [HL2.out, HH2.out]; exact Y2.out
        · have HH2 := Lib.hid (HH.out.trans (if_neg h2))
          have Y2 := Lib.hid Y
          obtain ⟨y0, y1, p0, p1⟩ := Y
          go_wp2
          refine ⟨⟨k + 1, by go_num, hkl2, ?_, hX2, he⟩, by simp [intOf]; omega⟩
          rw [HL2.out, HH2.out]; exact Y2.out
    · have hkk : ¬ (k : Int) < (l.length : Int) := by omega
      have HF : Hid (l.take k = l) := by show _ = _; exact List.take_of_length_le (by omega)
      have Y := hY.out
      have X3 := hX2.out
      rw [HF.out] at Y
      generalize lowL x0 l = lo at *
      generalize highL x0 l = hi at *
      obtain ⟨y0, y1, p0, p1⟩ := Y
      obtain ⟨d0, d1, g0, g1⟩ := X3
      clear hY hX2
      go_wp2_with fail
      refine bodyPost_ret (v := .tuple #[.agg #[txt lo, txt hi], .int .i64 0]) (by rw [results_cell_tmp1 rfl]; go_simp) rfl ?_
      exact ⟨by first | (rw [HR.out]; done) | (rw [HR.out]; rfl), extA⟩
theorem rEnds_any (g : Nat) (l : List Txt) (E : Nat) (w : World) (h : Four g w l E) (h0 : 0 < l.length) (hl : l.length ≤ 100) (hr : E = 0 → ∀ x ∈ l, fracE x = 0) :
    Calls Tryz.prog 77 #[.pointer (some ⟨g, 0, none⟩)] w (EncP (fourE l E) w) := by
  obtain ⟨v, x⟩ := h
  obtain ⟨a, cap, rfl, hcs⟩ := x.own.reads
  exact rEndsV_any g l E a cap w ⟨x.c0, x.c1, hcs⟩ h0 hl hr
end Go.Proofs.YtdejgaiocjfhjaaGreatDoor
namespace Go.Proofs.YtdejgaiocjfhjaaGreatDoor
open Go.RowKit
theorem results_cell_tmp_tmp {fn : Func} {p u v : Tmp} {ty : TypeId} (h : fn.results = #[.cell p ty, .tmp u, .tmp v]) (tmps : Array Value) (P : Program) (w : World) :
    (results fn tmps).run P w = ((asAddr (tmps.getD p undef)).run P w).andThen fun a w₁ => ((loadVar ty a).run P w₁).andThen fun x w₂ => .ok (.tuple #[x, tmps.getD u undef, tmps.getD v undef]) w₂ := by
  simp only [results, h]
  simp [Sem.run_bind, Result.andThen]
def MeetP (r : Enc × Bool × Nat) (w : World) (e : Ending) (w' : World) : Prop := e = .returned (.tuple #[encV r.1, .bool r.2.1, .int .i64 (r.2.2 : Nat)]) ∧ Ext w w'
set_option maxHeartbeats 16000000 in
set_option maxRecDepth 100000 in
theorem eMeet_any (a b : Enc) (w : World) (hG : Glob w) (hl : LenE a) (hm : LenE b) : Calls Tryz.prog 28 #[encV a, encV b] w (MeetP (meetE a b) w) := by
  have HB := Lib.hid (checked_two a b w hG hl hm)
  unfold MeetP
  obtain ⟨C, hC⟩ : ∃ C, C = meetE a b := ⟨_, rfl⟩
  rw [← hC]
  have hne0 : (((0 : Nat) : Int) != 0) = false := rfl
  by_cases e0 : bothEE a b = 0
  rotate_left
  · have HR : Hid (C = (([], []), false, bothEE a b)) := by show _ = _; rw [hC]; unfold meetE; rw [if_pos e0]
    have hne : (((bothEE a b : Nat) : Int) != 0) = true := by rw [bne_iff_ne]; omega
    clear e0 hC hl hm hG
    generalize bothEE a b = n at *
    obtain ⟨l, h⟩ := a
    obtain ⟨m, k⟩ := b
    dsimp only [encV] at HB ⊢
    have c0 : ((((w.alloc (.cells #[txt l, txt h] 24)).alloc (.cells #[txt m, txt k] 24)).alloc (.cells #[.string ⟨#[]⟩, .string ⟨#[]⟩] 24)).alloc (.cells #[txt l, txt h, txt m, txt k] 24)).cell? ⟨w.heap.size, 0, none⟩ = some (txt l) := by go_simp
    have c1 : ((((w.alloc (.cells #[txt l, txt h] 24)).alloc (.cells #[txt m, txt k] 24)).alloc (.cells #[.string ⟨#[]⟩, .string ⟨#[]⟩] 24)).alloc (.cells #[txt l, txt h, txt m, txt k] 24)).cell? ⟨w.heap.size, 1, none⟩ = some (txt h) := by go_simp
    have c2 : ((((w.alloc (.cells #[txt l, txt h] 24)).alloc (.cells #[txt m, txt k] 24)).alloc (.cells #[.string ⟨#[]⟩, .string ⟨#[]⟩] 24)).alloc (.cells #[txt l, txt h, txt m, txt k] 24)).cell? ⟨w.heap.size + 1, 0, none⟩ = some (txt m) := by go_simp
    have c3 : ((((w.alloc (.cells #[txt l, txt h] 24)).alloc (.cells #[txt m, txt k] 24)).alloc (.cells #[.string ⟨#[]⟩, .string ⟨#[]⟩] 24)).alloc (.cells #[txt l, txt h, txt m, txt k] 24)).cell? ⟨w.heap.size + 1, 1, none⟩ = some (txt k) := by go_simp
    have X : EncAt (w.heap.size + 1 + 1) ((((w.alloc (.cells #[txt l, txt h] 24)).alloc (.cells #[txt m, txt k] 24)).alloc (.cells #[.string ⟨#[]⟩, .string ⟨#[]⟩] 24)).alloc (.cells #[txt l, txt h, txt m, txt k] 24)) [] [] := ⟨by go_simp, by go_simp, by go_simp, by go_simp⟩
    have hZ : Ext w ((((w.alloc (.cells #[txt l, txt h] 24)).alloc (.cells #[txt m, txt k] 24)).alloc (.cells #[.string ⟨#[]⟩, .string ⟨#[]⟩] 24)).alloc (.cells #[txt l, txt h, txt m, txt k] 24)) := extA
    go_enter Tryz.func28, Tryz.ntmps28
    go_wp2_with (go_at_call 79; (refine (HB.out _ (((w.alloc (.cells #[txt l, txt h] 24)).alloc (.cells #[txt m, txt k] 24)).alloc (.cells #[.string ⟨#[]⟩, .string ⟨#[]⟩] 24)) _ (by simp) rfl extA).mono ?_); rintro e w3 ⟨rfl, hE3⟩; have c0 := hE3.cell c0; have c1 := hE3.cell c1; have c2 := hE3.cell c2; have c3 := hE3.cell c3; have b0 := cell_lt c0; have b1 := cell_lt c2; dsimp only at b0 b1; obtain ⟨d0, d1, g0, g1⟩ := X.ext hE3)
    refine bodyPost_ret (v := .tuple #[.agg #[txt [], txt []], .bool false, .int .i64 (n : Nat)]) (by rw [results_cell_tmp_tmp rfl]; go_simp) rfl ?_
    exact ⟨by first | (rw [HR.out]; done) | (rw [HR.out]; rfl), extA⟩
  obtain ⟨ea, eb⟩ := bothEE_two e0
  obtain ⟨f1, f2, _⟩ := enc_right ea
  obtain ⟨f3, f4, _⟩ := enc_right eb
  have HO1 := Lib.hid (fun W (h : Ext w W) => eOrder_any b.1 a.1 W (hG.ext h) hm.1 hl.1 (bothE_zero f3 f1))
  have HO2 := Lib.hid (fun W (h : Ext w W) => eOrder_any b.2 a.2 W (hG.ext h) hm.2 hl.2 (bothE_zero f4 f2))
  have HO3 : Hid (∀ x y, (x = a.1 ∨ x = b.1) → (y = a.2 ∨ y = b.2) → ∀ W, Ext w W → Calls Tryz.prog 84 #[txt x, txt y] W fun e w' => e = .returned (.int .i64 (ordQ x y)) ∧ Ext W w') := fun x y hx hy W h => by
    refine eOrder_any x y W (hG.ext h) ?_ ?_ ?_
    · rcases hx with rfl | rfl
      · exact hl.1
      · exact hm.1
    · rcases hy with rfl | rfl
      · exact hl.2
      · exact hm.2
    · rcases hx with rfl | rfl <;> rcases hy with rfl | rfl
      · exact bothE_zero f1 f2
      · exact bothE_zero f1 f4
      · exact bothE_zero f3 f2
      · exact bothE_zero f3 f4
  have HR : Hid (∀ x y, x = (if 0 < ordQ b.1 a.1 then b.1 else a.1) → y = (if ordQ b.2 a.2 < 0 then b.2 else a.2) → C = if 0 < ordQ x y then (([], []), false, 0) else ((x, y), true, 0)) := fun x y hx hy => by
    have e1 : lowMeet a b = x := hx.symm
    have e2 : highMeet a b = y := hy.symm
    rw [hC]
    unfold meetE commonE
    rw [if_neg (not_not_intro e0), e1, e2]
    split <;> rfl
  rw [e0] at HB
  clear e0 ea eb f1 f2 f3 f4 hl hm hG hC
  obtain ⟨l, h⟩ := a
  obtain ⟨m, k⟩ := b
  dsimp only [encV] at HB HO1 HO2 HO3 HR ⊢
  generalize ordQ m l = z1 at *
  generalize ordQ k h = z2 at *
  by_cases h1 : 0 < z1
  · have HR1 := HR
    by_cases h2 : z2 < 0
    · have HRX : Hid (C = if 0 < ordQ m k then (([], []), false, 0) else ((m, k), true, 0)) := HR1.out m k (by rw [if_pos h1]) (by rw [if_pos h2])
      have HO4 := Lib.hid (HO3.out m k (.inr rfl) (.inr rfl))
      clear HR1 HR HO3
      generalize ordQ m k = z3 at HRX HO4
      by_cases h3 : 0 < z3
      · rw [if_pos h3] at HRX
        have c0 : ((((w.alloc (.cells #[txt l, txt h] 24)).alloc (.cells #[txt m, txt k] 24)).alloc (.cells #[.string ⟨#[]⟩, .string ⟨#[]⟩] 24)).alloc (.cells #[txt l, txt h, txt m, txt k] 24)).cell? ⟨w.heap.size, 0, none⟩ = some (txt l) := by go_simp
        have c1 : ((((w.alloc (.cells #[txt l, txt h] 24)).alloc (.cells #[txt m, txt k] 24)).alloc (.cells #[.string ⟨#[]⟩, .string ⟨#[]⟩] 24)).alloc (.cells #[txt l, txt h, txt m, txt k] 24)).cell? ⟨w.heap.size, 1, none⟩ = some (txt h) := by go_simp
        have c2 : ((((w.alloc (.cells #[txt l, txt h] 24)).alloc (.cells #[txt m, txt k] 24)).alloc (.cells #[.string ⟨#[]⟩, .string ⟨#[]⟩] 24)).alloc (.cells #[txt l, txt h, txt m, txt k] 24)).cell? ⟨w.heap.size + 1, 0, none⟩ = some (txt m) := by go_simp
        have c3 : ((((w.alloc (.cells #[txt l, txt h] 24)).alloc (.cells #[txt m, txt k] 24)).alloc (.cells #[.string ⟨#[]⟩, .string ⟨#[]⟩] 24)).alloc (.cells #[txt l, txt h, txt m, txt k] 24)).cell? ⟨w.heap.size + 1, 1, none⟩ = some (txt k) := by go_simp
        have X : EncAt (w.heap.size + 1 + 1) ((((w.alloc (.cells #[txt l, txt h] 24)).alloc (.cells #[txt m, txt k] 24)).alloc (.cells #[.string ⟨#[]⟩, .string ⟨#[]⟩] 24)).alloc (.cells #[txt l, txt h, txt m, txt k] 24)) [] [] := ⟨by go_simp, by go_simp, by go_simp, by go_simp⟩
        have hZ : Ext w ((((w.alloc (.cells #[txt l, txt h] 24)).alloc (.cells #[txt m, txt k] 24)).alloc (.cells #[.string ⟨#[]⟩, .string ⟨#[]⟩] 24)).alloc (.cells #[txt l, txt h, txt m, txt k] 24)) := extA
        have P : EncAt w.heap.size ((((w.alloc (.cells #[txt l, txt h] 24)).alloc (.cells #[txt m, txt k] 24)).alloc (.cells #[.string ⟨#[]⟩, .string ⟨#[]⟩] 24)).alloc (.cells #[txt l, txt h, txt m, txt k] 24)) l h := ⟨c0, c1, by go_simp, by go_simp⟩
        have Q : EncAt (w.heap.size + 1) ((((w.alloc (.cells #[txt l, txt h] 24)).alloc (.cells #[txt m, txt k] 24)).alloc (.cells #[.string ⟨#[]⟩, .string ⟨#[]⟩] 24)).alloc (.cells #[txt l, txt h, txt m, txt k] 24)) m k := ⟨c2, c3, by go_simp, by go_simp⟩
        go_enter Tryz.func28, Tryz.ntmps28
        go_wp2_with (go_at_call 79; (refine (HB.out _ (((w.alloc (.cells #[txt l, txt h] 24)).alloc (.cells #[txt m, txt k] 24)).alloc (.cells #[.string ⟨#[]⟩, .string ⟨#[]⟩] 24)) _ (by simp) rfl extA).mono ?_); rintro e w3 ⟨rfl, hE3⟩; have c0 := hE3.cell c0; have c1 := hE3.cell c1; have c2 := hE3.cell c2; have c3 := hE3.cell c3; have b0 := cell_lt c0; have b1 := cell_lt c2; dsimp only at b0 b1)
        have hA : Ext w3 (w3.alloc (.cells #[txt l, txt h] 24)) := extA
        have Y : EncAt w3.heap.size (w3.alloc (.cells #[txt l, txt h] 24)) l h := ⟨by go_simp, by go_simp, by go_simp, by go_simp⟩
        have s3 : w.heap.size + 1 + 1 < w3.heap.size := cell_lt (X.ext hE3).c0
        have E := (hZ.trans hE3).trans hA
        replace X := (X.ext hE3).ext hA
        replace P := (P.ext hE3).ext hA
        replace Q := (Q.ext hE3).ext hA
        obtain ⟨ob, hob⟩ : ∃ ob, ob = w3.heap.size := ⟨_, rfl⟩
        have n0 : w.heap.size ≠ ob := by omega
        have n1 : w.heap.size + 1 ≠ ob := by omega
        have n2 : w.heap.size + 1 + 1 ≠ ob := by omega
        have hwb : w.heap.size ≤ ob := by omega
        rw [← hob] at Y ⊢
        generalize w3.alloc (.cells #[txt l, txt h] 24) = w4 at Y E X P Q ⊢
        clear hA hE3 hZ s3 hob b0 b1 c0 c1 c2 c3
        go_wp2_with (go_at_call 84; have hh := HO1; clear HO1; (refine (hh.out _ E).mono ?_); clear hh; rintro e w5 ⟨rfl, hE⟩; have P5 := Lib.hid ((P).ext hE); have Q5 := Lib.hid ((Q).ext hE); have X5 := Lib.hid ((X).ext hE); have Y5 := Lib.hid ((Y).ext hE); obtain ⟨c0, c1, _, _⟩ := P5.out; obtain ⟨c2, c3, _, _⟩ := Q5.out; obtain ⟨d0, d1, g0, g1⟩ := X5.out; obtain ⟨y0, y1, p0, p1⟩ := Y5.out)
        replace E := E.trans hE
        clear P Q X Y hE c0 c1 c2 c3 d0 d1 g0 g1 y0 y1 p0 p1
        have P := P5.out.other (o := 0) (v := txt m) n0
        have Q := Q5.out.other (o := 0) (v := txt m) n1
        have X := X5.out.other (o := 0) (v := txt m) n2
        have Y := Y5.out.set0 m
        replace E := E.set hwb (o := 0) (txt m)
        clear P5 Q5 X5 Y5
        go_wp2_with (go_at_call 84; have hh := HO2; clear HO2; (refine (hh.out _ E).mono ?_); clear hh; rintro e w6 ⟨rfl, hE⟩; have P5 := Lib.hid ((P).ext hE); have Q5 := Lib.hid ((Q).ext hE); have X5 := Lib.hid ((X).ext hE); have Y5 := Lib.hid ((Y).ext hE); obtain ⟨c0, c1, _, _⟩ := P5.out; obtain ⟨c2, c3, _, _⟩ := Q5.out; obtain ⟨d0, d1, g0, g1⟩ := X5.out; obtain ⟨y0, y1, p0, p1⟩ := Y5.out)
        replace E := E.trans hE
        clear P Q X Y hE c0 c1 c2 c3 d0 d1 g0 g1 y0 y1 p0 p1
        have P := P5.out.other (o := 1) (v := txt k) n0
        have Q := Q5.out.other (o := 1) (v := txt k) n1
        have X := X5.out.other (o := 1) (v := txt k) n2
        have Y := Y5.out.set1 k
        replace E := E.set hwb (o := 1) (txt k)
        clear P5 Q5 X5 Y5
        go_wp2_with (go_at_call 84; (refine (HO4.out _ E).mono ?_); rintro e w7 ⟨rfl, hE⟩; have P5 := Lib.hid ((P).ext hE); have Q5 := Lib.hid ((Q).ext hE); have X5 := Lib.hid ((X).ext hE); have Y5 := Lib.hid ((Y).ext hE); obtain ⟨c0, c1, _, _⟩ := P5.out; obtain ⟨c2, c3, _, _⟩ := Q5.out; obtain ⟨d0, d1, g0, g1⟩ := X5.out; obtain ⟨y0, y1, p0, p1⟩ := Y5.out)
        replace E := E.trans hE
        refine bodyPost_ret (v := .tuple #[.agg #[txt [], txt []], .bool false, .int .i64 0]) (by rw [results_cell_tmp_tmp rfl]; go_simp) rfl ?_
        exact ⟨by first | (rw [HRX.out]; done) | (rw [HRX.out]; rfl), extA⟩
      · rw [if_neg h3] at HRX
        have c0 : ((((w.alloc (.cells #[txt l, txt h] 24)).alloc (.cells #[txt m, txt k] 24)).alloc (.cells #[.string ⟨#[]⟩, .string ⟨#[]⟩] 24)).alloc (.cells #[txt l, txt h, txt m, txt k] 24)).cell? ⟨w.heap.size, 0, none⟩ = some (txt l) := by go_simp
        have c1 : ((((w.alloc (.cells #[txt l, txt h] 24)).alloc (.cells #[txt m, txt k] 24)).alloc (.cells #[.string ⟨#[]⟩, .string ⟨#[]⟩] 24)).alloc (.cells #[txt l, txt h, txt m, txt k] 24)).cell? ⟨w.heap.size, 1, none⟩ = some (txt h) := by go_simp
        have c2 : ((((w.alloc (.cells #[txt l, txt h] 24)).alloc (.cells #[txt m, txt k] 24)).alloc (.cells #[.string ⟨#[]⟩, .string ⟨#[]⟩] 24)).alloc (.cells #[txt l, txt h, txt m, txt k] 24)).cell? ⟨w.heap.size + 1, 0, none⟩ = some (txt m) := by go_simp
        have c3 : ((((w.alloc (.cells #[txt l, txt h] 24)).alloc (.cells #[txt m, txt k] 24)).alloc (.cells #[.string ⟨#[]⟩, .string ⟨#[]⟩] 24)).alloc (.cells #[txt l, txt h, txt m, txt k] 24)).cell? ⟨w.heap.size + 1, 1, none⟩ = some (txt k) := by go_simp
        have X : EncAt (w.heap.size + 1 + 1) ((((w.alloc (.cells #[txt l, txt h] 24)).alloc (.cells #[txt m, txt k] 24)).alloc (.cells #[.string ⟨#[]⟩, .string ⟨#[]⟩] 24)).alloc (.cells #[txt l, txt h, txt m, txt k] 24)) [] [] := ⟨by go_simp, by go_simp, by go_simp, by go_simp⟩
        have hZ : Ext w ((((w.alloc (.cells #[txt l, txt h] 24)).alloc (.cells #[txt m, txt k] 24)).alloc (.cells #[.string ⟨#[]⟩, .string ⟨#[]⟩] 24)).alloc (.cells #[txt l, txt h, txt m, txt k] 24)) := extA
        have P : EncAt w.heap.size ((((w.alloc (.cells #[txt l, txt h] 24)).alloc (.cells #[txt m, txt k] 24)).alloc (.cells #[.string ⟨#[]⟩, .string ⟨#[]⟩] 24)).alloc (.cells #[txt l, txt h, txt m, txt k] 24)) l h := ⟨c0, c1, by go_simp, by go_simp⟩
        have Q : EncAt (w.heap.size + 1) ((((w.alloc (.cells #[txt l, txt h] 24)).alloc (.cells #[txt m, txt k] 24)).alloc (.cells #[.string ⟨#[]⟩, .string ⟨#[]⟩] 24)).alloc (.cells #[txt l, txt h, txt m, txt k] 24)) m k := ⟨c2, c3, by go_simp, by go_simp⟩
        go_enter Tryz.func28, Tryz.ntmps28
        go_wp2_with (go_at_call 79; (refine (HB.out _ (((w.alloc (.cells #[txt l, txt h] 24)).alloc (.cells #[txt m, txt k] 24)).alloc (.cells #[.string ⟨#[]⟩, .string ⟨#[]⟩] 24)) _ (by simp) rfl extA).mono ?_); rintro e w3 ⟨rfl, hE3⟩; have c0 := hE3.cell c0; have c1 := hE3.cell c1; have c2 := hE3.cell c2; have c3 := hE3.cell c3; have b0 := cell_lt c0; have b1 := cell_lt c2; dsimp only at b0 b1)
        have hA : Ext w3 (w3.alloc (.cells #[txt l, txt h] 24)) := extA
        have Y : EncAt w3.heap.size (w3.alloc (.cells #[txt l, txt h] 24)) l h := ⟨by go_simp, by go_simp, by go_simp, by go_simp⟩
        have s3 : w.heap.size + 1 + 1 < w3.heap.size := cell_lt (X.ext hE3).c0
        have E := (hZ.trans hE3).trans hA
        replace X := (X.ext hE3).ext hA
        replace P := (P.ext hE3).ext hA
        replace Q := (Q.ext hE3).ext hA
        obtain ⟨ob, hob⟩ : ∃ ob, ob = w3.heap.size := ⟨_, rfl⟩
        have n0 : w.heap.size ≠ ob := by omega
        have n1 : w.heap.size + 1 ≠ ob := by omega
        have n2 : w.heap.size + 1 + 1 ≠ ob := by omega
        have hwb : w.heap.size ≤ ob := by omega
        rw [← hob] at Y ⊢
        generalize w3.alloc (.cells #[txt l, txt h] 24) = w4 at Y E X P Q ⊢
        clear hA hE3 hZ s3 hob b0 b1 c0 c1 c2 c3
        go_wp2_with (go_at_call 84; have hh := HO1; clear HO1; (refine (hh.out _ E).mono ?_); clear hh; rintro e w5 ⟨rfl, hE⟩; have P5 := Lib.hid ((P).ext hE); have Q5 := Lib.hid ((Q).ext hE); have X5 := Lib.hid ((X).ext hE); have Y5 := Lib.hid ((Y).ext hE); obtain ⟨c0, c1, _, _⟩ := P5.out; obtain ⟨c2, c3, _, _⟩ := Q5.out; obtain ⟨d0, d1, g0, g1⟩ := X5.out; obtain ⟨y0, y1, p0, p1⟩ := Y5.out)
        replace E := E.trans hE
        clear P Q X Y hE c0 c1 c2 c3 d0 d1 g0 g1 y0 y1 p0 p1
        have P := P5.out.other (o := 0) (v := txt m) n0
        have Q := Q5.out.other (o := 0) (v := txt m) n1
        have X := X5.out.other (o := 0) (v := txt m) n2
        have Y := Y5.out.set0 m
        replace E := E.set hwb (o := 0) (txt m)
        clear P5 Q5 X5 Y5
        go_wp2_with (go_at_call 84; have hh := HO2; clear HO2; (refine (hh.out _ E).mono ?_); clear hh; rintro e w6 ⟨rfl, hE⟩; have P5 := Lib.hid ((P).ext hE); have Q5 := Lib.hid ((Q).ext hE); have X5 := Lib.hid ((X).ext hE); have Y5 := Lib.hid ((Y).ext hE); obtain ⟨c0, c1, _, _⟩ := P5.out; obtain ⟨c2, c3, _, _⟩ := Q5.out; obtain ⟨d0, d1, g0, g1⟩ := X5.out; obtain ⟨y0, y1, p0, p1⟩ := Y5.out)
        replace E := E.trans hE
        clear P Q X Y hE c0 c1 c2 c3 d0 d1 g0 g1 y0 y1 p0 p1
        have P := P5.out.other (o := 1) (v := txt k) n0
        have Q := Q5.out.other (o := 1) (v := txt k) n1
        have X := X5.out.other (o := 1) (v := txt k) n2
        have Y := Y5.out.set1 k
        replace E := E.set hwb (o := 1) (txt k)
        clear P5 Q5 X5 Y5
        go_wp2_with (go_at_call 84; (refine (HO4.out _ E).mono ?_); rintro e w7 ⟨rfl, hE⟩; have P5 := Lib.hid ((P).ext hE); have Q5 := Lib.hid ((Q).ext hE); have X5 := Lib.hid ((X).ext hE); have Y5 := Lib.hid ((Y).ext hE); obtain ⟨c0, c1, _, _⟩ := P5.out; obtain ⟨c2, c3, _, _⟩ := Q5.out; obtain ⟨d0, d1, g0, g1⟩ := X5.out; obtain ⟨y0, y1, p0, p1⟩ := Y5.out)
        replace E := E.trans hE
        refine bodyPost_ret (v := .tuple #[.agg #[txt m, txt k], .bool true, .int .i64 0]) (by rw [results_cell_tmp_tmp rfl]; go_simp) rfl ?_
        exact ⟨by first | (rw [HRX.out]; done) | (rw [HRX.out]; rfl), extA⟩
    · have HRX : Hid (C = if 0 < ordQ m h then (([], []), false, 0) else ((m, h), true, 0)) := HR1.out m h (by rw [if_pos h1]) (by rw [if_neg h2])
      have HO4 := Lib.hid (HO3.out m h (.inr rfl) (.inl rfl))
      clear HR1 HR HO3
      generalize ordQ m h = z3 at HRX HO4
      by_cases h3 : 0 < z3
      · rw [if_pos h3] at HRX
        have c0 : ((((w.alloc (.cells #[txt l, txt h] 24)).alloc (.cells #[txt m, txt k] 24)).alloc (.cells #[.string ⟨#[]⟩, .string ⟨#[]⟩] 24)).alloc (.cells #[txt l, txt h, txt m, txt k] 24)).cell? ⟨w.heap.size, 0, none⟩ = some (txt l) := by go_simp
        have c1 : ((((w.alloc (.cells #[txt l, txt h] 24)).alloc (.cells #[txt m, txt k] 24)).alloc (.cells #[.string ⟨#[]⟩, .string ⟨#[]⟩] 24)).alloc (.cells #[txt l, txt h, txt m, txt k] 24)).cell? ⟨w.heap.size, 1, none⟩ = some (txt h) := by go_simp
        have c2 : ((((w.alloc (.cells #[txt l, txt h] 24)).alloc (.cells #[txt m, txt k] 24)).alloc (.cells #[.string ⟨#[]⟩, .string ⟨#[]⟩] 24)).alloc (.cells #[txt l, txt h, txt m, txt k] 24)).cell? ⟨w.heap.size + 1, 0, none⟩ = some (txt m) := by go_simp
        have c3 : ((((w.alloc (.cells #[txt l, txt h] 24)).alloc (.cells #[txt m, txt k] 24)).alloc (.cells #[.string ⟨#[]⟩, .string ⟨#[]⟩] 24)).alloc (.cells #[txt l, txt h, txt m, txt k] 24)).cell? ⟨w.heap.size + 1, 1, none⟩ = some (txt k) := by go_simp
        have X : EncAt (w.heap.size + 1 + 1) ((((w.alloc (.cells #[txt l, txt h] 24)).alloc (.cells #[txt m, txt k] 24)).alloc (.cells #[.string ⟨#[]⟩, .string ⟨#[]⟩] 24)).alloc (.cells #[txt l, txt h, txt m, txt k] 24)) [] [] := ⟨by go_simp, by go_simp, by go_simp, by go_simp⟩
        have hZ : Ext w ((((w.alloc (.cells #[txt l, txt h] 24)).alloc (.cells #[txt m, txt k] 24)).alloc (.cells #[.string ⟨#[]⟩, .string ⟨#[]⟩] 24)).alloc (.cells #[txt l, txt h, txt m, txt k] 24)) := extA
        have P : EncAt w.heap.size ((((w.alloc (.cells #[txt l, txt h] 24)).alloc (.cells #[txt m, txt k] 24)).alloc (.cells #[.string ⟨#[]⟩, .string ⟨#[]⟩] 24)).alloc (.cells #[txt l, txt h, txt m, txt k] 24)) l h := ⟨c0, c1, by go_simp, by go_simp⟩
        have Q : EncAt (w.heap.size + 1) ((((w.alloc (.cells #[txt l, txt h] 24)).alloc (.cells #[txt m, txt k] 24)).alloc (.cells #[.string ⟨#[]⟩, .string ⟨#[]⟩] 24)).alloc (.cells #[txt l, txt h, txt m, txt k] 24)) m k := ⟨c2, c3, by go_simp, by go_simp⟩
        go_enter Tryz.func28, Tryz.ntmps28
        go_wp2_with (go_at_call 79; (refine (HB.out _ (((w.alloc (.cells #[txt l, txt h] 24)).alloc (.cells #[txt m, txt k] 24)).alloc (.cells #[.string ⟨#[]⟩, .string ⟨#[]⟩] 24)) _ (by simp) rfl extA).mono ?_); rintro e w3 ⟨rfl, hE3⟩; have c0 := hE3.cell c0; have c1 := hE3.cell c1; have c2 := hE3.cell c2; have c3 := hE3.cell c3; have b0 := cell_lt c0; have b1 := cell_lt c2; dsimp only at b0 b1)
        have hA : Ext w3 (w3.alloc (.cells #[txt l, txt h] 24)) := extA
        have Y : EncAt w3.heap.size (w3.alloc (.cells #[txt l, txt h] 24)) l h := ⟨by go_simp, by go_simp, by go_simp, by go_simp⟩
        have s3 : w.heap.size + 1 + 1 < w3.heap.size := cell_lt (X.ext hE3).c0
        have E := (hZ.trans hE3).trans hA
        replace X := (X.ext hE3).ext hA
        replace P := (P.ext hE3).ext hA
        replace Q := (Q.ext hE3).ext hA
        obtain ⟨ob, hob⟩ : ∃ ob, ob = w3.heap.size := ⟨_, rfl⟩
        have n0 : w.heap.size ≠ ob := by omega
        have n1 : w.heap.size + 1 ≠ ob := by omega
        have n2 : w.heap.size + 1 + 1 ≠ ob := by omega
        have hwb : w.heap.size ≤ ob := by omega
        rw [← hob] at Y ⊢
        generalize w3.alloc (.cells #[txt l, txt h] 24) = w4 at Y E X P Q ⊢
        clear hA hE3 hZ s3 hob b0 b1 c0 c1 c2 c3
        go_wp2_with (go_at_call 84; have hh := HO1; clear HO1; (refine (hh.out _ E).mono ?_); clear hh; rintro e w5 ⟨rfl, hE⟩; have P5 := Lib.hid ((P).ext hE); have Q5 := Lib.hid ((Q).ext hE); have X5 := Lib.hid ((X).ext hE); have Y5 := Lib.hid ((Y).ext hE); obtain ⟨c0, c1, _, _⟩ := P5.out; obtain ⟨c2, c3, _, _⟩ := Q5.out; obtain ⟨d0, d1, g0, g1⟩ := X5.out; obtain ⟨y0, y1, p0, p1⟩ := Y5.out)
        replace E := E.trans hE
        clear P Q X Y hE c0 c1 c2 c3 d0 d1 g0 g1 y0 y1 p0 p1
        have P := P5.out.other (o := 0) (v := txt m) n0
        have Q := Q5.out.other (o := 0) (v := txt m) n1
        have X := X5.out.other (o := 0) (v := txt m) n2
        have Y := Y5.out.set0 m
        replace E := E.set hwb (o := 0) (txt m)
        clear P5 Q5 X5 Y5
        go_wp2_with (go_at_call 84; have hh := HO2; clear HO2; (refine (hh.out _ E).mono ?_); clear hh; rintro e w6 ⟨rfl, hE⟩; have P5 := Lib.hid ((P).ext hE); have Q5 := Lib.hid ((Q).ext hE); have X5 := Lib.hid ((X).ext hE); have Y5 := Lib.hid ((Y).ext hE); obtain ⟨c0, c1, _, _⟩ := P5.out; obtain ⟨c2, c3, _, _⟩ := Q5.out; obtain ⟨d0, d1, g0, g1⟩ := X5.out; obtain ⟨y0, y1, p0, p1⟩ := Y5.out)
        replace E := E.trans hE
        clear P Q X Y hE c0 c1 c2 c3 d0 d1 g0 g1 y0 y1 p0 p1
        have P := P5.out
        have Q := Q5.out
        have X := X5.out
        have Y := Y5.out
        clear P5 Q5 X5 Y5
        go_wp2_with (go_at_call 84; (refine (HO4.out _ E).mono ?_); rintro e w7 ⟨rfl, hE⟩; have P5 := Lib.hid ((P).ext hE); have Q5 := Lib.hid ((Q).ext hE); have X5 := Lib.hid ((X).ext hE); have Y5 := Lib.hid ((Y).ext hE); obtain ⟨c0, c1, _, _⟩ := P5.out; obtain ⟨c2, c3, _, _⟩ := Q5.out; obtain ⟨d0, d1, g0, g1⟩ := X5.out; obtain ⟨y0, y1, p0, p1⟩ := Y5.out)
        replace E := E.trans hE
        refine bodyPost_ret (v := .tuple #[.agg #[txt [], txt []], .bool false, .int .i64 0]) (by rw [results_cell_tmp_tmp rfl]; go_simp) rfl ?_
        exact ⟨by first | (rw [HRX.out]; done) | (rw [HRX.out]; rfl), extA⟩
      · rw [if_neg h3] at HRX
        have c0 : ((((w.alloc (.cells #[txt l, txt h] 24)).alloc (.cells #[txt m, txt k] 24)).alloc (.cells #[.string ⟨#[]⟩, .string ⟨#[]⟩] 24)).alloc (.cells #[txt l, txt h, txt m, txt k] 24)).cell? ⟨w.heap.size, 0, none⟩ = some (txt l) := by go_simp
        have c1 : ((((w.alloc (.cells #[txt l, txt h] 24)).alloc (.cells #[txt m, txt k] 24)).alloc (.cells #[.string ⟨#[]⟩, .string ⟨#[]⟩] 24)).alloc (.cells #[txt l, txt h, txt m, txt k] 24)).cell? ⟨w.heap.size, 1, none⟩ = some (txt h) := by go_simp
        have c2 : ((((w.alloc (.cells #[txt l, txt h] 24)).alloc (.cells #[txt m, txt k] 24)).alloc (.cells #[.string ⟨#[]⟩, .string ⟨#[]⟩] 24)).alloc (.cells #[txt l, txt h, txt m, txt k] 24)).cell? ⟨w.heap.size + 1, 0, none⟩ = some (txt m) := by go_simp
        have c3 : ((((w.alloc (.cells #[txt l, txt h] 24)).alloc (.cells #[txt m, txt k] 24)).alloc (.cells #[.string ⟨#[]⟩, .string ⟨#[]⟩] 24)).alloc (.cells #[txt l, txt h, txt m, txt k] 24)).cell? ⟨w.heap.size + 1, 1, none⟩ = some (txt k) := by go_simp
        have X : EncAt (w.heap.size + 1 + 1) ((((w.alloc (.cells #[txt l, txt h] 24)).alloc (.cells #[txt m, txt k] 24)).alloc (.cells #[.string ⟨#[]⟩, .string ⟨#[]⟩] 24)).alloc (.cells #[txt l, txt h, txt m, txt k] 24)) [] [] := ⟨by go_simp, by go_simp, by go_simp, by go_simp⟩
        have hZ : Ext w ((((w.alloc (.cells #[txt l, txt h] 24)).alloc (.cells #[txt m, txt k] 24)).alloc (.cells #[.string ⟨#[]⟩, .string ⟨#[]⟩] 24)).alloc (.cells #[txt l, txt h, txt m, txt k] 24)) := extA
        have P : EncAt w.heap.size ((((w.alloc (.cells #[txt l, txt h] 24)).alloc (.cells #[txt m, txt k] 24)).alloc (.cells #[.string ⟨#[]⟩, .string ⟨#[]⟩] 24)).alloc (.cells #[txt l, txt h, txt m, txt k] 24)) l h := ⟨c0, c1, by go_simp, by go_simp⟩
        have Q : EncAt (w.heap.size + 1) ((((w.alloc (.cells #[txt l, txt h] 24)).alloc (.cells #[txt m, txt k] 24)).alloc (.cells #[.string ⟨#[]⟩, .string ⟨#[]⟩] 24)).alloc (.cells #[txt l, txt h, txt m, txt k] 24)) m k := ⟨c2, c3, by go_simp, by go_simp⟩
        go_enter Tryz.func28, Tryz.ntmps28
        go_wp2_with (go_at_call 79; (refine (HB.out _ (((w.alloc (.cells #[txt l, txt h] 24)).alloc (.cells #[txt m, txt k] 24)).alloc (.cells #[.string ⟨#[]⟩, .string ⟨#[]⟩] 24)) _ (by simp) rfl extA).mono ?_); rintro e w3 ⟨rfl, hE3⟩; have c0 := hE3.cell c0; have c1 := hE3.cell c1; have c2 := hE3.cell c2; have c3 := hE3.cell c3; have b0 := cell_lt c0; have b1 := cell_lt c2; dsimp only at b0 b1)
        have hA : Ext w3 (w3.alloc (.cells #[txt l, txt h] 24)) := extA
        have Y : EncAt w3.heap.size (w3.alloc (.cells #[txt l, txt h] 24)) l h := ⟨by go_simp, by go_simp, by go_simp, by go_simp⟩
        have s3 : w.heap.size + 1 + 1 < w3.heap.size := cell_lt (X.ext hE3).c0
        have E := (hZ.trans hE3).trans hA
        replace X := (X.ext hE3).ext hA
        replace P := (P.ext hE3).ext hA
        replace Q := (Q.ext hE3).ext hA
        obtain ⟨ob, hob⟩ : ∃ ob, ob = w3.heap.size := ⟨_, rfl⟩
        have n0 : w.heap.size ≠ ob := by omega
        have n1 : w.heap.size + 1 ≠ ob := by omega
        have n2 : w.heap.size + 1 + 1 ≠ ob := by omega
        have hwb : w.heap.size ≤ ob := by omega
        rw [← hob] at Y ⊢
        generalize w3.alloc (.cells #[txt l, txt h] 24) = w4 at Y E X P Q ⊢
        clear hA hE3 hZ s3 hob b0 b1 c0 c1 c2 c3
        go_wp2_with (go_at_call 84; have hh := HO1; clear HO1; (refine (hh.out _ E).mono ?_); clear hh; rintro e w5 ⟨rfl, hE⟩; have P5 := Lib.hid ((P).ext hE); have Q5 := Lib.hid ((Q).ext hE); have X5 := Lib.hid ((X).ext hE); have Y5 := Lib.hid ((Y).ext hE); obtain ⟨c0, c1, _, _⟩ := P5.out; obtain ⟨c2, c3, _, _⟩ := Q5.out; obtain ⟨d0, d1, g0, g1⟩ := X5.out; obtain ⟨y0, y1, p0, p1⟩ := Y5.out)
        replace E := E.trans hE
        clear P Q X Y hE c0 c1 c2 c3 d0 d1 g0 g1 y0 y1 p0 p1
        have P := P5.out.other (o := 0) (v := txt m) n0
        have Q := Q5.out.other (o := 0) (v := txt m) n1
        have X := X5.out.other (o := 0) (v := txt m) n2
        have Y := Y5.out.set0 m
        replace E := E.set hwb (o := 0) (txt m)
        clear P5 Q5 X5 Y5
        go_wp2_with (go_at_call 84; have hh := HO2; clear HO2; (refine (hh.out _ E).mono ?_); clear hh; rintro e w6 ⟨rfl, hE⟩; have P5 := Lib.hid ((P).ext hE); have Q5 := Lib.hid ((Q).ext hE); have X5 := Lib.hid ((X).ext hE); have Y5 := Lib.hid ((Y).ext hE); obtain ⟨c0, c1, _, _⟩ := P5.out; obtain ⟨c2, c3, _, _⟩ := Q5.out; obtain ⟨d0, d1, g0, g1⟩ := X5.out; obtain ⟨y0, y1, p0, p1⟩ := Y5.out)
        replace E := E.trans hE
        clear P Q X Y hE c0 c1 c2 c3 d0 d1 g0 g1 y0 y1 p0 p1
        have P := P5.out
        have Q := Q5.out
        have X := X5.out
        have Y := Y5.out
        clear P5 Q5 X5 Y5
        go_wp2_with (go_at_call 84; (refine (HO4.out _ E).mono ?_); rintro e w7 ⟨rfl, hE⟩; have P5 := Lib.hid ((P).ext hE); have Q5 := Lib.hid ((Q).ext hE); have X5 := Lib.hid ((X).ext hE); have Y5 := Lib.hid ((Y).ext hE); obtain ⟨c0, c1, _, _⟩ := P5.out; obtain ⟨c2, c3, _, _⟩ := Q5.out; obtain ⟨d0, d1, g0, g1⟩ := X5.out; obtain ⟨y0, y1, p0, p1⟩ := Y5.out)
        replace E := E.trans hE
        refine bodyPost_ret (v := .tuple #[.agg #[txt m, txt h], .bool true, .int .i64 0]) (by rw [results_cell_tmp_tmp rfl]; go_simp) rfl ?_
        exact ⟨by first | (rw [HRX.out]; done) | (rw [HRX.out]; rfl), extA⟩
  · have HR1 := HR
    by_cases h2 : z2 < 0
    · have HRX : Hid (C = if 0 < ordQ l k then (([], []), false, 0) else ((l, k), true, 0)) := HR1.out l k (by rw [if_neg h1]) (by rw [if_pos h2])
      have HO4 := Lib.hid (HO3.out l k (.inl rfl) (.inr rfl))
      clear HR1 HR HO3
      generalize ordQ l k = z3 at HRX HO4
      by_cases h3 : 0 < z3
      · rw [if_pos h3] at HRX
        have c0 : ((((w.alloc (.cells #[txt l, txt h] 24)).alloc (.cells #[txt m, txt k] 24)).alloc (.cells #[.string ⟨#[]⟩, .string ⟨#[]⟩] 24)).alloc (.cells #[txt l, txt h, txt m, txt k] 24)).cell? ⟨w.heap.size, 0, none⟩ = some (txt l) := by go_simp
        have c1 : ((((w.alloc (.cells #[txt l, txt h] 24)).alloc (.cells #[txt m, txt k] 24)).alloc (.cells #[.string ⟨#[]⟩, .string ⟨#[]⟩] 24)).alloc (.cells #[txt l, txt h, txt m, txt k] 24)).cell? ⟨w.heap.size, 1, none⟩ = some (txt h) := by go_simp
        have c2 : ((((w.alloc (.cells #[txt l, txt h] 24)).alloc (.cells #[txt m, txt k] 24)).alloc (.cells #[.string ⟨#[]⟩, .string ⟨#[]⟩] 24)).alloc (.cells #[txt l, txt h, txt m, txt k] 24)).cell? ⟨w.heap.size + 1, 0, none⟩ = some (txt m) := by go_simp
        have c3 : ((((w.alloc (.cells #[txt l, txt h] 24)).alloc (.cells #[txt m, txt k] 24)).alloc (.cells #[.string ⟨#[]⟩, .string ⟨#[]⟩] 24)).alloc (.cells #[txt l, txt h, txt m, txt k] 24)).cell? ⟨w.heap.size + 1, 1, none⟩ = some (txt k) := by go_simp
        have X : EncAt (w.heap.size + 1 + 1) ((((w.alloc (.cells #[txt l, txt h] 24)).alloc (.cells #[txt m, txt k] 24)).alloc (.cells #[.string ⟨#[]⟩, .string ⟨#[]⟩] 24)).alloc (.cells #[txt l, txt h, txt m, txt k] 24)) [] [] := ⟨by go_simp, by go_simp, by go_simp, by go_simp⟩
        have hZ : Ext w ((((w.alloc (.cells #[txt l, txt h] 24)).alloc (.cells #[txt m, txt k] 24)).alloc (.cells #[.string ⟨#[]⟩, .string ⟨#[]⟩] 24)).alloc (.cells #[txt l, txt h, txt m, txt k] 24)) := extA
        have P : EncAt w.heap.size ((((w.alloc (.cells #[txt l, txt h] 24)).alloc (.cells #[txt m, txt k] 24)).alloc (.cells #[.string ⟨#[]⟩, .string ⟨#[]⟩] 24)).alloc (.cells #[txt l, txt h, txt m, txt k] 24)) l h := ⟨c0, c1, by go_simp, by go_simp⟩
        have Q : EncAt (w.heap.size + 1) ((((w.alloc (.cells #[txt l, txt h] 24)).alloc (.cells #[txt m, txt k] 24)).alloc (.cells #[.string ⟨#[]⟩, .string ⟨#[]⟩] 24)).alloc (.cells #[txt l, txt h, txt m, txt k] 24)) m k := ⟨c2, c3, by go_simp, by go_simp⟩
        go_enter Tryz.func28, Tryz.ntmps28
        go_wp2_with (go_at_call 79; (refine (HB.out _ (((w.alloc (.cells #[txt l, txt h] 24)).alloc (.cells #[txt m, txt k] 24)).alloc (.cells #[.string ⟨#[]⟩, .string ⟨#[]⟩] 24)) _ (by simp) rfl extA).mono ?_); rintro e w3 ⟨rfl, hE3⟩; have c0 := hE3.cell c0; have c1 := hE3.cell c1; have c2 := hE3.cell c2; have c3 := hE3.cell c3; have b0 := cell_lt c0; have b1 := cell_lt c2; dsimp only at b0 b1)
        have hA : Ext w3 (w3.alloc (.cells #[txt l, txt h] 24)) := extA
        have Y : EncAt w3.heap.size (w3.alloc (.cells #[txt l, txt h] 24)) l h := ⟨by go_simp, by go_simp, by go_simp, by go_simp⟩
        have s3 : w.heap.size + 1 + 1 < w3.heap.size := cell_lt (X.ext hE3).c0
        have E := (hZ.trans hE3).trans hA
        replace X := (X.ext hE3).ext hA
        replace P := (P.ext hE3).ext hA
        replace Q := (Q.ext hE3).ext hA
        obtain ⟨ob, hob⟩ : ∃ ob, ob = w3.heap.size := ⟨_, rfl⟩
        have n0 : w.heap.size ≠ ob := by omega
        have n1 : w.heap.size + 1 ≠ ob := by omega
        have n2 : w.heap.size + 1 + 1 ≠ ob := by omega
        have hwb : w.heap.size ≤ ob := by omega
        rw [← hob] at Y ⊢
        generalize w3.alloc (.cells #[txt l, txt h] 24) = w4 at Y E X P Q ⊢
        clear hA hE3 hZ s3 hob b0 b1 c0 c1 c2 c3
        go_wp2_with (go_at_call 84; have hh := HO1; clear HO1; (refine (hh.out _ E).mono ?_); clear hh; rintro e w5 ⟨rfl, hE⟩; have P5 := Lib.hid ((P).ext hE); have Q5 := Lib.hid ((Q).ext hE); have X5 := Lib.hid ((X).ext hE); have Y5 := Lib.hid ((Y).ext hE); obtain ⟨c0, c1, _, _⟩ := P5.out; obtain ⟨c2, c3, _, _⟩ := Q5.out; obtain ⟨d0, d1, g0, g1⟩ := X5.out; obtain ⟨y0, y1, p0, p1⟩ := Y5.out)
        replace E := E.trans hE
        clear P Q X Y hE c0 c1 c2 c3 d0 d1 g0 g1 y0 y1 p0 p1
        have P := P5.out
        have Q := Q5.out
        have X := X5.out
        have Y := Y5.out
        clear P5 Q5 X5 Y5
        go_wp2_with (go_at_call 84; have hh := HO2; clear HO2; (refine (hh.out _ E).mono ?_); clear hh; rintro e w6 ⟨rfl, hE⟩; have P5 := Lib.hid ((P).ext hE); have Q5 := Lib.hid ((Q).ext hE); have X5 := Lib.hid ((X).ext hE); have Y5 := Lib.hid ((Y).ext hE); obtain ⟨c0, c1, _, _⟩ := P5.out; obtain ⟨c2, c3, _, _⟩ := Q5.out; obtain ⟨d0, d1, g0, g1⟩ := X5.out; obtain ⟨y0, y1, p0, p1⟩ := Y5.out)
        replace E := E.trans hE
        clear P Q X Y hE c0 c1 c2 c3 d0 d1 g0 g1 y0 y1 p0 p1
        have P := P5.out.other (o := 1) (v := txt k) n0
        have Q := Q5.out.other (o := 1) (v := txt k) n1
        have X := X5.out.other (o := 1) (v := txt k) n2
        have Y := Y5.out.set1 k
        replace E := E.set hwb (o := 1) (txt k)
        clear P5 Q5 X5 Y5
        go_wp2_with (go_at_call 84; (refine (HO4.out _ E).mono ?_); rintro e w7 ⟨rfl, hE⟩; have P5 := Lib.hid ((P).ext hE); have Q5 := Lib.hid ((Q).ext hE); have X5 := Lib.hid ((X).ext hE); have Y5 := Lib.hid ((Y).ext hE); obtain ⟨c0, c1, _, _⟩ := P5.out; obtain ⟨c2, c3, _, _⟩ := Q5.out; obtain ⟨d0, d1, g0, g1⟩ := X5.out; obtain ⟨y0, y1, p0, p1⟩ := Y5.out)
        replace E := E.trans hE
        refine bodyPost_ret (v := .tuple #[.agg #[txt [], txt []], .bool false, .int .i64 0]) (by rw [results_cell_tmp_tmp rfl]; go_simp) rfl ?_
        exact ⟨by first | (rw [HRX.out]; done) | (rw [HRX.out]; rfl), extA⟩
      · rw [if_neg h3] at HRX
        have c0 : ((((w.alloc (.cells #[txt l, txt h] 24)).alloc (.cells #[txt m, txt k] 24)).alloc (.cells #[.string ⟨#[]⟩, .string ⟨#[]⟩] 24)).alloc (.cells #[txt l, txt h, txt m, txt k] 24)).cell? ⟨w.heap.size, 0, none⟩ = some (txt l) := by go_simp
        have c1 : ((((w.alloc (.cells #[txt l, txt h] 24)).alloc (.cells #[txt m, txt k] 24)).alloc (.cells #[.string ⟨#[]⟩, .string ⟨#[]⟩] 24)).alloc (.cells #[txt l, txt h, txt m, txt k] 24)).cell? ⟨w.heap.size, 1, none⟩ = some (txt h) := by go_simp
        have c2 : ((((w.alloc (.cells #[txt l, txt h] 24)).alloc (.cells #[txt m, txt k] 24)).alloc (.cells #[.string ⟨#[]⟩, .string ⟨#[]⟩] 24)).alloc (.cells #[txt l, txt h, txt m, txt k] 24)).cell? ⟨w.heap.size + 1, 0, none⟩ = some (txt m) := by go_simp
        have c3 : ((((w.alloc (.cells #[txt l, txt h] 24)).alloc (.cells #[txt m, txt k] 24)).alloc (.cells #[.string ⟨#[]⟩, .string ⟨#[]⟩] 24)).alloc (.cells #[txt l, txt h, txt m, txt k] 24)).cell? ⟨w.heap.size + 1, 1, none⟩ = some (txt k) := by go_simp
        have X : EncAt (w.heap.size + 1 + 1) ((((w.alloc (.cells #[txt l, txt h] 24)).alloc (.cells #[txt m, txt k] 24)).alloc (.cells #[.string ⟨#[]⟩, .string ⟨#[]⟩] 24)).alloc (.cells #[txt l, txt h, txt m, txt k] 24)) [] [] := ⟨by go_simp, by go_simp, by go_simp, by go_simp⟩
        have hZ : Ext w ((((w.alloc (.cells #[txt l, txt h] 24)).alloc (.cells #[txt m, txt k] 24)).alloc (.cells #[.string ⟨#[]⟩, .string ⟨#[]⟩] 24)).alloc (.cells #[txt l, txt h, txt m, txt k] 24)) := extA
        have P : EncAt w.heap.size ((((w.alloc (.cells #[txt l, txt h] 24)).alloc (.cells #[txt m, txt k] 24)).alloc (.cells #[.string ⟨#[]⟩, .string ⟨#[]⟩] 24)).alloc (.cells #[txt l, txt h, txt m, txt k] 24)) l h := ⟨c0, c1, by go_simp, by go_simp⟩
        have Q : EncAt (w.heap.size + 1) ((((w.alloc (.cells #[txt l, txt h] 24)).alloc (.cells #[txt m, txt k] 24)).alloc (.cells #[.string ⟨#[]⟩, .string ⟨#[]⟩] 24)).alloc (.cells #[txt l, txt h, txt m, txt k] 24)) m k := ⟨c2, c3, by go_simp, by go_simp⟩
        go_enter Tryz.func28, Tryz.ntmps28
        go_wp2_with (go_at_call 79; (refine (HB.out _ (((w.alloc (.cells #[txt l, txt h] 24)).alloc (.cells #[txt m, txt k] 24)).alloc (.cells #[.string ⟨#[]⟩, .string ⟨#[]⟩] 24)) _ (by simp) rfl extA).mono ?_); rintro e w3 ⟨rfl, hE3⟩; have c0 := hE3.cell c0; have c1 := hE3.cell c1; have c2 := hE3.cell c2; have c3 := hE3.cell c3; have b0 := cell_lt c0; have b1 := cell_lt c2; dsimp only at b0 b1)
        have hA : Ext w3 (w3.alloc (.cells #[txt l, txt h] 24)) := extA
        have Y : EncAt w3.heap.size (w3.alloc (.cells #[txt l, txt h] 24)) l h := ⟨by go_simp, by go_simp, by go_simp, by go_simp⟩
        have s3 : w.heap.size + 1 + 1 < w3.heap.size := cell_lt (X.ext hE3).c0
        have E := (hZ.trans hE3).trans hA
        replace X := (X.ext hE3).ext hA
        replace P := (P.ext hE3).ext hA
        replace Q := (Q.ext hE3).ext hA
        obtain ⟨ob, hob⟩ : ∃ ob, ob = w3.heap.size := ⟨_, rfl⟩
        have n0 : w.heap.size ≠ ob := by omega
        have n1 : w.heap.size + 1 ≠ ob := by omega
        have n2 : w.heap.size + 1 + 1 ≠ ob := by omega
        have hwb : w.heap.size ≤ ob := by omega
        rw [← hob] at Y ⊢
        generalize w3.alloc (.cells #[txt l, txt h] 24) = w4 at Y E X P Q ⊢
        clear hA hE3 hZ s3 hob b0 b1 c0 c1 c2 c3
        go_wp2_with (go_at_call 84; have hh := HO1; clear HO1; (refine (hh.out _ E).mono ?_); clear hh; rintro e w5 ⟨rfl, hE⟩; have P5 := Lib.hid ((P).ext hE); have Q5 := Lib.hid ((Q).ext hE); have X5 := Lib.hid ((X).ext hE); have Y5 := Lib.hid ((Y).ext hE); obtain ⟨c0, c1, _, _⟩ := P5.out; obtain ⟨c2, c3, _, _⟩ := Q5.out; obtain ⟨d0, d1, g0, g1⟩ := X5.out; obtain ⟨y0, y1, p0, p1⟩ := Y5.out)
        replace E := E.trans hE
        clear P Q X Y hE c0 c1 c2 c3 d0 d1 g0 g1 y0 y1 p0 p1
        have P := P5.out
        have Q := Q5.out
        have X := X5.out
        have Y := Y5.out
        clear P5 Q5 X5 Y5
        go_wp2_with (go_at_call 84; have hh := HO2; clear HO2; (refine (hh.out _ E).mono ?_); clear hh; rintro e w6 ⟨rfl, hE⟩; have P5 := Lib.hid ((P).ext hE); have Q5 := Lib.hid ((Q).ext hE); have X5 := Lib.hid ((X).ext hE); have Y5 := Lib.hid ((Y).ext hE); obtain ⟨c0, c1, _, _⟩ := P5.out; obtain ⟨c2, c3, _, _⟩ := Q5.out; obtain ⟨d0, d1, g0, g1⟩ := X5.out; obtain ⟨y0, y1, p0, p1⟩ := Y5.out)
        replace E := E.trans hE
        clear P Q X Y hE c0 c1 c2 c3 d0 d1 g0 g1 y0 y1 p0 p1
        have P := P5.out.other (o := 1) (v := txt k) n0
        have Q := Q5.out.other (o := 1) (v := txt k) n1
        have X := X5.out.other (o := 1) (v := txt k) n2
        have Y := Y5.out.set1 k
        replace E := E.set hwb (o := 1) (txt k)
        clear P5 Q5 X5 Y5
        go_wp2_with (go_at_call 84; (refine (HO4.out _ E).mono ?_); rintro e w7 ⟨rfl, hE⟩; have P5 := Lib.hid ((P).ext hE); have Q5 := Lib.hid ((Q).ext hE); have X5 := Lib.hid ((X).ext hE); have Y5 := Lib.hid ((Y).ext hE); obtain ⟨c0, c1, _, _⟩ := P5.out; obtain ⟨c2, c3, _, _⟩ := Q5.out; obtain ⟨d0, d1, g0, g1⟩ := X5.out; obtain ⟨y0, y1, p0, p1⟩ := Y5.out)
        replace E := E.trans hE
        refine bodyPost_ret (v := .tuple #[.agg #[txt l, txt k], .bool true, .int .i64 0]) (by rw [results_cell_tmp_tmp rfl]; go_simp) rfl ?_
        exact ⟨by first | (rw [HRX.out]; done) | (rw [HRX.out]; rfl), extA⟩
    · have HRX : Hid (C = if 0 < ordQ l h then (([], []), false, 0) else ((l, h), true, 0)) := HR1.out l h (by rw [if_neg h1]) (by rw [if_neg h2])
      have HO4 := Lib.hid (HO3.out l h (.inl rfl) (.inl rfl))
      clear HR1 HR HO3
      generalize ordQ l h = z3 at HRX HO4
      by_cases h3 : 0 < z3
      · rw [if_pos h3] at HRX
        have c0 : ((((w.alloc (.cells #[txt l, txt h] 24)).alloc (.cells #[txt m, txt k] 24)).alloc (.cells #[.string ⟨#[]⟩, .string ⟨#[]⟩] 24)).alloc (.cells #[txt l, txt h, txt m, txt k] 24)).cell? ⟨w.heap.size, 0, none⟩ = some (txt l) := by go_simp
        have c1 : ((((w.alloc (.cells #[txt l, txt h] 24)).alloc (.cells #[txt m, txt k] 24)).alloc (.cells #[.string ⟨#[]⟩, .string ⟨#[]⟩] 24)).alloc (.cells #[txt l, txt h, txt m, txt k] 24)).cell? ⟨w.heap.size, 1, none⟩ = some (txt h) := by go_simp
        have c2 : ((((w.alloc (.cells #[txt l, txt h] 24)).alloc (.cells #[txt m, txt k] 24)).alloc (.cells #[.string ⟨#[]⟩, .string ⟨#[]⟩] 24)).alloc (.cells #[txt l, txt h, txt m, txt k] 24)).cell? ⟨w.heap.size + 1, 0, none⟩ = some (txt m) := by go_simp
        have c3 : ((((w.alloc (.cells #[txt l, txt h] 24)).alloc (.cells #[txt m, txt k] 24)).alloc (.cells #[.string ⟨#[]⟩, .string ⟨#[]⟩] 24)).alloc (.cells #[txt l, txt h, txt m, txt k] 24)).cell? ⟨w.heap.size + 1, 1, none⟩ = some (txt k) := by go_simp
        have X : EncAt (w.heap.size + 1 + 1) ((((w.alloc (.cells #[txt l, txt h] 24)).alloc (.cells #[txt m, txt k] 24)).alloc (.cells #[.string ⟨#[]⟩, .string ⟨#[]⟩] 24)).alloc (.cells #[txt l, txt h, txt m, txt k] 24)) [] [] := ⟨by go_simp, by go_simp, by go_simp, by go_simp⟩
        have hZ : Ext w ((((w.alloc (.cells #[txt l, txt h] 24)).alloc (.cells #[txt m, txt k] 24)).alloc (.cells #[.string ⟨#[]⟩, .string ⟨#[]⟩] 24)).alloc (.cells #[txt l, txt h, txt m, txt k] 24)) := extA
        have P : EncAt w.heap.size ((((w.alloc (.cells #[txt l, txt h] 24)).alloc (.cells #[txt m, txt k] 24)).alloc (.cells #[.string ⟨#[]⟩, .string ⟨#[]⟩] 24)).alloc (.cells #[txt l, txt h, txt m, txt k] 24)) l h := ⟨c0, c1, by go_simp, by go_simp⟩
        have Q : EncAt (w.heap.size + 1) ((((w.alloc (.cells #[txt l, txt h] 24)).alloc (.cells #[txt m, txt k] 24)).alloc (.cells #[.string ⟨#[]⟩, .string ⟨#[]⟩] 24)).alloc (.cells #[txt l, txt h, txt m, txt k] 24)) m k := ⟨c2, c3, by go_simp, by go_simp⟩
        go_enter Tryz.func28, Tryz.ntmps28
        go_wp2_with (go_at_call 79; (refine (HB.out _ (((w.alloc (.cells #[txt l, txt h] 24)).alloc (.cells #[txt m, txt k] 24)).alloc (.cells #[.string ⟨#[]⟩, .string ⟨#[]⟩] 24)) _ (by simp) rfl extA).mono ?_); rintro e w3 ⟨rfl, hE3⟩; have c0 := hE3.cell c0; have c1 := hE3.cell c1; have c2 := hE3.cell c2; have c3 := hE3.cell c3; have b0 := cell_lt c0; have b1 := cell_lt c2; dsimp only at b0 b1)
        have hA : Ext w3 (w3.alloc (.cells #[txt l, txt h] 24)) := extA
        have Y : EncAt w3.heap.size (w3.alloc (.cells #[txt l, txt h] 24)) l h := ⟨by go_simp, by go_simp, by go_simp, by go_simp⟩
        have s3 : w.heap.size + 1 + 1 < w3.heap.size := cell_lt (X.ext hE3).c0
        have E := (hZ.trans hE3).trans hA
        replace X := (X.ext hE3).ext hA
        replace P := (P.ext hE3).ext hA
        replace Q := (Q.ext hE3).ext hA
        obtain ⟨ob, hob⟩ : ∃ ob, ob = w3.heap.size := ⟨_, rfl⟩
        have n0 : w.heap.size ≠ ob := by omega
        have n1 : w.heap.size + 1 ≠ ob := by omega
        have n2 : w.heap.size + 1 + 1 ≠ ob := by omega
        have hwb : w.heap.size ≤ ob := by omega
        rw [← hob] at Y ⊢
        generalize w3.alloc (.cells #[txt l, txt h] 24) = w4 at Y E X P Q ⊢
        clear hA hE3 hZ s3 hob b0 b1 c0 c1 c2 c3
        go_wp2_with (go_at_call 84; have hh := HO1; clear HO1; (refine (hh.out _ E).mono ?_); clear hh; rintro e w5 ⟨rfl, hE⟩; have P5 := Lib.hid ((P).ext hE); have Q5 := Lib.hid ((Q).ext hE); have X5 := Lib.hid ((X).ext hE); have Y5 := Lib.hid ((Y).ext hE); obtain ⟨c0, c1, _, _⟩ := P5.out; obtain ⟨c2, c3, _, _⟩ := Q5.out; obtain ⟨d0, d1, g0, g1⟩ := X5.out; obtain ⟨y0, y1, p0, p1⟩ := Y5.out)
        replace E := E.trans hE
        clear P Q X Y hE c0 c1 c2 c3 d0 d1 g0 g1 y0 y1 p0 p1
        have P := P5.out
        have Q := Q5.out
        have X := X5.out
        have Y := Y5.out
        clear P5 Q5 X5 Y5
        go_wp2_with (go_at_call 84; have hh := HO2; clear HO2; (refine (hh.out _ E).mono ?_); clear hh; rintro e w6 ⟨rfl, hE⟩; have P5 := Lib.hid ((P).ext hE); have Q5 := Lib.hid ((Q).ext hE); have X5 := Lib.hid ((X).ext hE); have Y5 := Lib.hid ((Y).ext hE); obtain ⟨c0, c1, _, _⟩ := P5.out; obtain ⟨c2, c3, _, _⟩ := Q5.out; obtain ⟨d0, d1, g0, g1⟩ := X5.out; obtain ⟨y0, y1, p0, p1⟩ := Y5.out)
        replace E := E.trans hE
        clear P Q X Y hE c0 c1 c2 c3 d0 d1 g0 g1 y0 y1 p0 p1
        have P := P5.out
        have Q := Q5.out
        have X := X5.out
        have Y := Y5.out
        clear P5 Q5 X5 Y5
        go_wp2_with (go_at_call 84; (refine (HO4.out _ E).mono ?_); rintro e w7 ⟨rfl, hE⟩; have P5 := Lib.hid ((P).ext hE); have Q5 := Lib.hid ((Q).ext hE); have X5 := Lib.hid ((X).ext hE); have Y5 := Lib.hid ((Y).ext hE); obtain ⟨c0, c1, _, _⟩ := P5.out; obtain ⟨c2, c3, _, _⟩ := Q5.out; obtain ⟨d0, d1, g0, g1⟩ := X5.out; obtain ⟨y0, y1, p0, p1⟩ := Y5.out)
        replace E := E.trans hE
        refine bodyPost_ret (v := .tuple #[.agg #[txt [], txt []], .bool false, .int .i64 0]) (by rw [results_cell_tmp_tmp rfl]; go_simp) rfl ?_
        exact ⟨by first | (rw [HRX.out]; done) | (rw [HRX.out]; rfl), extA⟩
      · rw [if_neg h3] at HRX
        have c0 : ((((w.alloc (.cells #[txt l, txt h] 24)).alloc (.cells #[txt m, txt k] 24)).alloc (.cells #[.string ⟨#[]⟩, .string ⟨#[]⟩] 24)).alloc (.cells #[txt l, txt h, txt m, txt k] 24)).cell? ⟨w.heap.size, 0, none⟩ = some (txt l) := by go_simp
        have c1 : ((((w.alloc (.cells #[txt l, txt h] 24)).alloc (.cells #[txt m, txt k] 24)).alloc (.cells #[.string ⟨#[]⟩, .string ⟨#[]⟩] 24)).alloc (.cells #[txt l, txt h, txt m, txt k] 24)).cell? ⟨w.heap.size, 1, none⟩ = some (txt h) := by go_simp
        have c2 : ((((w.alloc (.cells #[txt l, txt h] 24)).alloc (.cells #[txt m, txt k] 24)).alloc (.cells #[.string ⟨#[]⟩, .string ⟨#[]⟩] 24)).alloc (.cells #[txt l, txt h, txt m, txt k] 24)).cell? ⟨w.heap.size + 1, 0, none⟩ = some (txt m) := by go_simp
        have c3 : ((((w.alloc (.cells #[txt l, txt h] 24)).alloc (.cells #[txt m, txt k] 24)).alloc (.cells #[.string ⟨#[]⟩, .string ⟨#[]⟩] 24)).alloc (.cells #[txt l, txt h, txt m, txt k] 24)).cell? ⟨w.heap.size + 1, 1, none⟩ = some (txt k) := by go_simp
        have X : EncAt (w.heap.size + 1 + 1) ((((w.alloc (.cells #[txt l, txt h] 24)).alloc (.cells #[txt m, txt k] 24)).alloc (.cells #[.string ⟨#[]⟩, .string ⟨#[]⟩] 24)).alloc (.cells #[txt l, txt h, txt m, txt k] 24)) [] [] := ⟨by go_simp, by go_simp, by go_simp, by go_simp⟩
        have hZ : Ext w ((((w.alloc (.cells #[txt l, txt h] 24)).alloc (.cells #[txt m, txt k] 24)).alloc (.cells #[.string ⟨#[]⟩, .string ⟨#[]⟩] 24)).alloc (.cells #[txt l, txt h, txt m, txt k] 24)) := extA
        have P : EncAt w.heap.size ((((w.alloc (.cells #[txt l, txt h] 24)).alloc (.cells #[txt m, txt k] 24)).alloc (.cells #[.string ⟨#[]⟩, .string ⟨#[]⟩] 24)).alloc (.cells #[txt l, txt h, txt m, txt k] 24)) l h := ⟨c0, c1, by go_simp, by go_simp⟩
        have Q : EncAt (w.heap.size + 1) ((((w.alloc (.cells #[txt l, txt h] 24)).alloc (.cells #[txt m, txt k] 24)).alloc (.cells #[.string ⟨#[]⟩, .string ⟨#[]⟩] 24)).alloc (.cells #[txt l, txt h, txt m, txt k] 24)) m k := ⟨c2, c3, by go_simp, by go_simp⟩
        go_enter Tryz.func28, Tryz.ntmps28
        go_wp2_with (go_at_call 79; (refine (HB.out _ (((w.alloc (.cells #[txt l, txt h] 24)).alloc (.cells #[txt m, txt k] 24)).alloc (.cells #[.string ⟨#[]⟩, .string ⟨#[]⟩] 24)) _ (by simp) rfl extA).mono ?_); rintro e w3 ⟨rfl, hE3⟩; have c0 := hE3.cell c0; have c1 := hE3.cell c1; have c2 := hE3.cell c2; have c3 := hE3.cell c3; have b0 := cell_lt c0; have b1 := cell_lt c2; dsimp only at b0 b1)
        have hA : Ext w3 (w3.alloc (.cells #[txt l, txt h] 24)) := extA
        have Y : EncAt w3.heap.size (w3.alloc (.cells #[txt l, txt h] 24)) l h := ⟨by go_simp, by go_simp, by go_simp, by go_simp⟩
        have s3 : w.heap.size + 1 + 1 < w3.heap.size := cell_lt (X.ext hE3).c0
        have E := (hZ.trans hE3).trans hA
        replace X := (X.ext hE3).ext hA
        replace P := (P.ext hE3).ext hA
        replace Q := (Q.ext hE3).ext hA
        obtain ⟨ob, hob⟩ : ∃ ob, ob = w3.heap.size := ⟨_, rfl⟩
        have n0 : w.heap.size ≠ ob := by omega
        have n1 : w.heap.size + 1 ≠ ob := by omega
        have n2 : w.heap.size + 1 + 1 ≠ ob := by omega
        have hwb : w.heap.size ≤ ob := by omega
        rw [← hob] at Y ⊢
        generalize w3.alloc (.cells #[txt l, txt h] 24) = w4 at Y E X P Q ⊢
        clear hA hE3 hZ s3 hob b0 b1 c0 c1 c2 c3
        go_wp2_with (go_at_call 84; have hh := HO1; clear HO1; (refine (hh.out _ E).mono ?_); clear hh; rintro e w5 ⟨rfl, hE⟩; have P5 := Lib.hid ((P).ext hE); have Q5 := Lib.hid ((Q).ext hE); have X5 := Lib.hid ((X).ext hE); have Y5 := Lib.hid ((Y).ext hE); obtain ⟨c0, c1, _, _⟩ := P5.out; obtain ⟨c2, c3, _, _⟩ := Q5.out; obtain ⟨d0, d1, g0, g1⟩ := X5.out; obtain ⟨y0, y1, p0, p1⟩ := Y5.out)
        replace E := E.trans hE
        clear P Q X Y hE c0 c1 c2 c3 d0 d1 g0 g1 y0 y1 p0 p1
        have P := P5.out
        have Q := Q5.out
        have X := X5.out
        have Y := Y5.out
        clear P5 Q5 X5 Y5
        go_wp2_with (go_at_call 84; have hh := HO2; clear HO2; (refine (hh.out _ E).mono ?_); clear hh; rintro e w6 ⟨rfl, hE⟩; have P5 := Lib.hid ((P).ext hE); have Q5 := Lib.hid ((Q).ext hE); have X5 := Lib.hid ((X).ext hE); have Y5 := Lib.hid ((Y).ext hE); obtain ⟨c0, c1, _, _⟩ := P5.out; obtain ⟨c2, c3, _, _⟩ := Q5.out; obtain ⟨d0, d1, g0, g1⟩ := X5.out; obtain ⟨y0, y1, p0, p1⟩ := Y5.out)
        replace E := E.trans hE
        clear P Q X Y hE c0 c1 c2 c3 d0 d1 g0 g1 y0 y1 p0 p1
        have P := P5.out
        have Q := Q5.out
        have X := X5.out
        have Y := Y5.out
        clear P5 Q5 X5 Y5
        go_wp2_with (go_at_call 84; (refine (HO4.out _ E).mono ?_); rintro e w7 ⟨rfl, hE⟩; have P5 := Lib.hid ((P).ext hE); have Q5 := Lib.hid ((Q).ext hE); have X5 := Lib.hid ((X).ext hE); have Y5 := Lib.hid ((Y).ext hE); obtain ⟨c0, c1, _, _⟩ := P5.out; obtain ⟨c2, c3, _, _⟩ := Q5.out; obtain ⟨d0, d1, g0, g1⟩ := X5.out; obtain ⟨y0, y1, p0, p1⟩ := Y5.out)
        replace E := E.trans hE
        refine bodyPost_ret (v := .tuple #[.agg #[txt l, txt h], .bool true, .int .i64 0]) (by rw [results_cell_tmp_tmp rfl]; go_simp) rfl ?_
        exact ⟨by first | (rw [HRX.out]; done) | (rw [HRX.out]; rfl), extA⟩
end Go.Proofs.YtdejgaiocjfhjaaGreatDoor
