/- Steps of the proof: AApi, AFaR, AFaS, ASea, ARec, UOwn, ABo1, FPrtF, ADem. No conditions. -/
import Derived.Test.YtlnonmmaknhppaaGreatDoorZAB1
import Derived.Test.YtlnonmmaknhppaaGreatDoorZAB2
import Derived.Test.YtlnonmmaknhppaaGreatDoorZAB3
import Derived.Test.YtlnonmmaknhppaaGreatDoorZAB4
import Derived.Test.YtlnonmmaknhppaaGreatDoorZAB5
import Derived.Test.YtlnonmmaknhppaaGreatDoorZAB6
import Derived.Test.YtlnonmmaknhppaaGreatDoorZAB7
import Derived.Test.YtlnonmmaknhppaaGreatDoorZAB8
import Derived.Test.YtlnonmmaknhppaaGreatDoorZAB9
namespace Go.Proofs.YtlnonmmaknhppaaGreatDoor
open Go.RowKit
open Go.Lib (decDigits itoa)
theorem cellsQt_one (w : World) (x : Int × Int) (t : TypeId) : CellsQt (w.alloc (.cells #[.int .i64 x.1, .int .i64 x.2] t)) (some ⟨w.heap.size, 0, none⟩) [x] := fun i hi => by
  have : i = 0 := by simp at hi; omega
  subst this
  exact ⟨w.heap.size, 0, rfl, by rw [World.cell?_alloc_new]; rfl, by rw [World.cell?_alloc_new]; rfl⟩
theorem cellsQt_two (w : World) (x y : Int × Int) (t : TypeId) : CellsQt (w.alloc (.cells #[.int .i64 x.1, .int .i64 x.2, .int .i64 y.1, .int .i64 y.2] t)) (some ⟨w.heap.size, 0, none⟩) [x, y] := fun i hi => by
  have : i = 0 ∨ i = 1 := by simp at hi; omega
  rcases this with rfl | rfl
  · exact ⟨w.heap.size, 0, rfl, by rw [World.cell?_alloc_new]; rfl, by rw [World.cell?_alloc_new]; rfl⟩
  · exact ⟨w.heap.size, 0, rfl, by rw [World.cell?_alloc_new]; rfl, by rw [World.cell?_alloc_new]; rfl⟩
theorem CylOk.four {c : Cyl} (h : CylOk c) : 1 ≤ c.bore ∧ c.bore ≤ 500 ∧ 0 ≤ c.rod ∧ c.rod < c.bore := ⟨h.b1, h.b2, h.r1, h.r2⟩
theorem qok_small {n d : Int} (h1 : 0 ≤ n) (h2 : n ≤ 1000000) (h3 : 0 < d) (h4 : d ≤ 101000000) : QOk (n, d) := ⟨h1, by dsimp only; omega, h3, by dsimp only; omega⟩
theorem cylV_eq (b r s : Int) : cylV ⟨b, r, s⟩ = .agg #[.int .i64 b, .int .i64 r, .int .i64 s] := rfl
set_option maxHeartbeats 8000000 in
set_option maxRecDepth 100000 in
theorem aArea_any (c : Cyl) (out : Bool) (w : World) (hG : Glob w) : Calls Tryz.prog 23 #[cylV c, .bool out] w (EncP (areaS c out) w) := by
  have HK := Lib.hid (fun W => aCheck_any c W)
  have HG := Lib.hid hG
  obtain ⟨R, hR⟩ : ∃ R, R = areaS c out := ⟨_, rfl⟩
  rw [← hR]
  unfold areaS at hR
  have hok := fun h : cylE c = 0 => cylOk_of h
  unfold EncP
  clear hG
  obtain ⟨b, r, s⟩ := c
  generalize cylE ⟨b, r, s⟩ = n at HK hR hok
  have V := cylV_eq b r s
  have X : EncAt (w.heap.size + 1) ((w.alloc (.cells #[.int .i64 b, .int .i64 r, .int .i64 s] 49)).alloc (.cells #[.string ⟨#[]⟩, .string ⟨#[]⟩] 35)) [] [] := ⟨by go_simp, by go_simp, by go_simp, by go_simp⟩
  have E : Ext w ((w.alloc (.cells #[.int .i64 b, .int .i64 r, .int .i64 s] 49)).alloc (.cells #[.string ⟨#[]⟩, .string ⟨#[]⟩] 35)) := extA
  have c0 : (((w.alloc (.cells #[.int .i64 b, .int .i64 r, .int .i64 s] 49)).alloc (.cells #[.string ⟨#[]⟩, .string ⟨#[]⟩] 35))).cell? ⟨w.heap.size, 0, none⟩ = some (.int .i64 b) := by go_simp
  have c1 : (((w.alloc (.cells #[.int .i64 b, .int .i64 r, .int .i64 s] 49)).alloc (.cells #[.string ⟨#[]⟩, .string ⟨#[]⟩] 35))).cell? ⟨w.heap.size, 1, none⟩ = some (.int .i64 r) := by go_simp
  have c2 : (((w.alloc (.cells #[.int .i64 b, .int .i64 r, .int .i64 s] 49)).alloc (.cells #[.string ⟨#[]⟩, .string ⟨#[]⟩] 35))).cell? ⟨w.heap.size, 2, none⟩ = some (.int .i64 s) := by go_simp
  rw [V] at HK ⊢
  by_cases hn : n = 0
  · subst hn
    rw [if_neg (by simp)] at hR
    have hk := hok rfl
    clear hok
    have HF := Lib.hid (fun W qa qc (hg : Glob W) hc => face_any ⟨b, r, s⟩ out [] qa qc W hg hk.four hc (fun x hx => by cases hx) (by simp))
    rw [area_times hk] at HF
    unfold EncP at HF
    rw [V] at HF
    generalize faceT ⟨b, r, s⟩ out = tt at HF hR
    obtain ⟨t1, t2⟩ := tt
    dsimp only [encV] at HF
    have HR := Lib.hid hR
    clear hR hk
    go_enter Tryz.func23, Tryz.ntmps23
    go_wp2_with fail
    generalize ((w.alloc (.cells #[.int .i64 b, .int .i64 r, .int .i64 s] 49)).alloc (.cells #[.string ⟨#[]⟩, .string ⟨#[]⟩] 35)) = w0 at X E c0 c1 c2 ⊢
    refine (HK.out _).mono ?_
    rintro e w1 ⟨rfl, hE⟩
    replace X := X.ext hE
    replace E := E.trans hE
    have c0 := (hE).cell c0
    have c1 := (hE).cell c1
    have c2 := (hE).cell c2
    have z0 := cell_lt c0
    have z1 := cell_lt X.c0
    dsimp only at z0 z1
    clear hE
    go_wp2_with fail
    refine (HF.out _ none 0 (HG.out.ext E) (fun i hi => by simp at hi)).mono ?_
    rintro e w2 ⟨rfl, hE⟩
    obtain ⟨d0, d1, g0, g1⟩ := X.ext hE
    replace E := E.trans hE
    clear hE X c0 c1 c2 z0 z1
    go_wp2
    refine bodyPost_ret (v := .tuple #[.agg #[txt t1, txt t2], .int .i64 0]) (by rw [results_cell_tmp1 rfl]; go_simp) rfl ?_
    exact ⟨by rw [HR.out]; rfl, extA⟩
  · rw [if_pos hn] at hR
    have HR := Lib.hid hR
    have hne : (((n : Nat) : Int) != 0) = true := by rw [bne_iff_ne]; omega
    clear hR hok hn
    go_enter Tryz.func23, Tryz.ntmps23
    go_wp2_with fail
    generalize ((w.alloc (.cells #[.int .i64 b, .int .i64 r, .int .i64 s] 49)).alloc (.cells #[.string ⟨#[]⟩, .string ⟨#[]⟩] 35)) = w0 at X E c0 c1 c2 ⊢
    refine (HK.out _).mono ?_
    rintro e w1 ⟨rfl, hE⟩
    obtain ⟨d0, d1, g0, g1⟩ := X.ext hE
    replace E := E.trans hE
    clear hE X c0 c1 c2
    go_wp2
    refine bodyPost_ret (v := .tuple #[.agg #[txt [], txt []], .int .i64 (n : Nat)]) (by rw [results_cell_tmp1 rfl]; go_simp) rfl ?_
    exact ⟨by rw [HR.out]; rfl, extA⟩
set_option maxHeartbeats 8000000 in
set_option maxRecDepth 100000 in
theorem aForce_any (c : Cyl) (out : Bool) (p : Int) (w : World) (hG : Glob w) : Calls Tryz.prog 30 #[cylV c, .bool out, .int .i64 p] w (EncP (forceS c out p) w) := by
  have HK := Lib.hid (fun W => aChecked_any c p W)
  have HG := Lib.hid hG
  obtain ⟨R, hR⟩ : ∃ R, R = forceS c out p := ⟨_, rfl⟩
  rw [← hR]
  unfold forceS at hR
  have hok := fun h : presE c p = 0 => presOk_of h
  unfold EncP
  clear hG
  obtain ⟨b, r, s⟩ := c
  generalize presE ⟨b, r, s⟩ p = n at HK hR hok
  have V := cylV_eq b r s
  have X : EncAt (w.heap.size + 1) ((w.alloc (.cells #[.int .i64 b, .int .i64 r, .int .i64 s] 49)).alloc (.cells #[.string ⟨#[]⟩, .string ⟨#[]⟩] 35)) [] [] := ⟨by go_simp, by go_simp, by go_simp, by go_simp⟩
  have E : Ext w ((w.alloc (.cells #[.int .i64 b, .int .i64 r, .int .i64 s] 49)).alloc (.cells #[.string ⟨#[]⟩, .string ⟨#[]⟩] 35)) := extA
  have c0 : (((w.alloc (.cells #[.int .i64 b, .int .i64 r, .int .i64 s] 49)).alloc (.cells #[.string ⟨#[]⟩, .string ⟨#[]⟩] 35))).cell? ⟨w.heap.size, 0, none⟩ = some (.int .i64 b) := by go_simp
  have c1 : (((w.alloc (.cells #[.int .i64 b, .int .i64 r, .int .i64 s] 49)).alloc (.cells #[.string ⟨#[]⟩, .string ⟨#[]⟩] 35))).cell? ⟨w.heap.size, 1, none⟩ = some (.int .i64 r) := by go_simp
  have c2 : (((w.alloc (.cells #[.int .i64 b, .int .i64 r, .int .i64 s] 49)).alloc (.cells #[.string ⟨#[]⟩, .string ⟨#[]⟩] 35))).cell? ⟨w.heap.size, 2, none⟩ = some (.int .i64 s) := by go_simp
  rw [V] at HK ⊢
  by_cases hn : n = 0
  · subst hn
    rw [if_neg (by simp)] at hR
    have hk := hok rfl
    clear hok
    have HF := Lib.hid (fun W qa qc (hg : Glob W) hc => face_any ⟨b, r, s⟩ out [(p, 1000)] qa qc W hg hk.1.four hc (fun x hx => by simp at hx; subst hx; exact qok_small (by have := hk.2; omega) (by have := hk.2; omega) (by decide) (by decide)) (by simp))
    rw [force_times hk.1 out hk.2.1 hk.2.2] at HF
    unfold EncP at HF
    rw [V] at HF
    generalize forceT ⟨b, r, s⟩ out p = tt at HF hR
    obtain ⟨t1, t2⟩ := tt
    dsimp only [encV] at HF
    have HR := Lib.hid hR
    clear hR hk
    go_enter Tryz.func30, Tryz.ntmps30
    go_wp2_with fail
    generalize ((w.alloc (.cells #[.int .i64 b, .int .i64 r, .int .i64 s] 49)).alloc (.cells #[.string ⟨#[]⟩, .string ⟨#[]⟩] 35)) = w0 at X E c0 c1 c2 ⊢
    refine (HK.out _).mono ?_
    rintro e w1 ⟨rfl, hE⟩
    replace X := X.ext hE
    replace E := E.trans hE
    have c0 := (hE).cell c0
    have c1 := (hE).cell c1
    have c2 := (hE).cell c2
    have z0 := cell_lt c0
    have z1 := cell_lt X.c0
    dsimp only at z0 z1
    clear hE
    go_wp2_with fail
    have E1 : Ext w1 (w1.alloc (.cells #[.int .i64 p, .int .i64 1000] 90)) := extA
    refine (HF.out _ _ 1 (HG.out.ext (E.trans E1)) (cellsQt_one w1 (p, 1000) _)).mono ?_
    rintro e w2 ⟨rfl, hE⟩
    obtain ⟨d0, d1, g0, g1⟩ := X.ext (E1.trans hE)
    replace E := E.trans (E1.trans hE)
    clear E1
    clear hE X c0 c1 c2 z0 z1
    go_wp2
    refine bodyPost_ret (v := .tuple #[.agg #[txt t1, txt t2], .int .i64 0]) (by rw [results_cell_tmp1 rfl]; go_simp) rfl ?_
    exact ⟨by rw [HR.out]; rfl, extA⟩
  · rw [if_pos hn] at hR
    have HR := Lib.hid hR
    have hne : (((n : Nat) : Int) != 0) = true := by rw [bne_iff_ne]; omega
    clear hR hok hn
    go_enter Tryz.func30, Tryz.ntmps30
    go_wp2_with fail
    generalize ((w.alloc (.cells #[.int .i64 b, .int .i64 r, .int .i64 s] 49)).alloc (.cells #[.string ⟨#[]⟩, .string ⟨#[]⟩] 35)) = w0 at X E c0 c1 c2 ⊢
    refine (HK.out _).mono ?_
    rintro e w1 ⟨rfl, hE⟩
    obtain ⟨d0, d1, g0, g1⟩ := X.ext hE
    replace E := E.trans hE
    clear hE X c0 c1 c2
    go_wp2
    refine bodyPost_ret (v := .tuple #[.agg #[txt [], txt []], .int .i64 (n : Nat)]) (by rw [results_cell_tmp1 rfl]; go_simp) rfl ?_
    exact ⟨by rw [HR.out]; rfl, extA⟩
set_option maxHeartbeats 8000000 in
set_option maxRecDepth 100000 in
theorem aVolume_any (c : Cyl) (out : Bool) (w : World) (hG : Glob w) : Calls Tryz.prog 26 #[cylV c, .bool out] w (EncP (volumeS c out) w) := by
  have HK := Lib.hid (fun W => aCheck_any c W)
  have HG := Lib.hid hG
  obtain ⟨R, hR⟩ : ∃ R, R = volumeS c out := ⟨_, rfl⟩
  rw [← hR]
  unfold volumeS at hR
  have hok := fun h : cylE c = 0 => cylOk_of h
  unfold EncP
  clear hG
  obtain ⟨b, r, s⟩ := c
  generalize cylE ⟨b, r, s⟩ = n at HK hR hok
  have V := cylV_eq b r s
  have X : EncAt (w.heap.size + 1) ((w.alloc (.cells #[.int .i64 b, .int .i64 r, .int .i64 s] 49)).alloc (.cells #[.string ⟨#[]⟩, .string ⟨#[]⟩] 35)) [] [] := ⟨by go_simp, by go_simp, by go_simp, by go_simp⟩
  have E : Ext w ((w.alloc (.cells #[.int .i64 b, .int .i64 r, .int .i64 s] 49)).alloc (.cells #[.string ⟨#[]⟩, .string ⟨#[]⟩] 35)) := extA
  have c0 : (((w.alloc (.cells #[.int .i64 b, .int .i64 r, .int .i64 s] 49)).alloc (.cells #[.string ⟨#[]⟩, .string ⟨#[]⟩] 35))).cell? ⟨w.heap.size, 0, none⟩ = some (.int .i64 b) := by go_simp
  have c1 : (((w.alloc (.cells #[.int .i64 b, .int .i64 r, .int .i64 s] 49)).alloc (.cells #[.string ⟨#[]⟩, .string ⟨#[]⟩] 35))).cell? ⟨w.heap.size, 1, none⟩ = some (.int .i64 r) := by go_simp
  have c2 : (((w.alloc (.cells #[.int .i64 b, .int .i64 r, .int .i64 s] 49)).alloc (.cells #[.string ⟨#[]⟩, .string ⟨#[]⟩] 35))).cell? ⟨w.heap.size, 2, none⟩ = some (.int .i64 s) := by go_simp
  rw [V] at HK ⊢
  by_cases hn : n = 0
  · subst hn
    rw [if_neg (by simp)] at hR
    have hk := hok rfl
    clear hok
    have HF := Lib.hid (fun W qa qc (hg : Glob W) hc => face_any ⟨b, r, s⟩ out [(s, 1)] qa qc W hg hk.four hc (fun x hx => by simp at hx; subst hx; exact qok_small (by have := hk.s1; dsimp only at this; omega) (by have := hk.s2; dsimp only at this; omega) (by decide) (by decide)) (by simp))
    rw [vol_times hk out] at HF
    unfold EncP at HF
    rw [V] at HF
    generalize volT ⟨b, r, s⟩ out = tt at HF hR
    obtain ⟨t1, t2⟩ := tt
    dsimp only [encV] at HF
    have HR := Lib.hid hR
    clear hR hk
    go_enter Tryz.func26, Tryz.ntmps26
    go_wp2_with fail
    generalize ((w.alloc (.cells #[.int .i64 b, .int .i64 r, .int .i64 s] 49)).alloc (.cells #[.string ⟨#[]⟩, .string ⟨#[]⟩] 35)) = w0 at X E c0 c1 c2 ⊢
    refine (HK.out _).mono ?_
    rintro e w1 ⟨rfl, hE⟩
    replace X := X.ext hE
    replace E := E.trans hE
    have c0 := (hE).cell c0
    have c1 := (hE).cell c1
    have c2 := (hE).cell c2
    have z0 := cell_lt c0
    have z1 := cell_lt X.c0
    dsimp only at z0 z1
    clear hE
    go_wp2_with fail
    have E1 : Ext w1 (w1.alloc (.cells #[.int .i64 s, .int .i64 1] 90)) := extA
    refine (HF.out _ _ 1 (HG.out.ext (E.trans E1)) (cellsQt_one w1 (s, 1) _)).mono ?_
    rintro e w2 ⟨rfl, hE⟩
    obtain ⟨d0, d1, g0, g1⟩ := X.ext (E1.trans hE)
    replace E := E.trans (E1.trans hE)
    clear E1
    clear hE X c0 c1 c2 z0 z1
    go_wp2
    refine bodyPost_ret (v := .tuple #[.agg #[txt t1, txt t2], .int .i64 0]) (by rw [results_cell_tmp1 rfl]; go_simp) rfl ?_
    exact ⟨by rw [HR.out]; rfl, extA⟩
  · rw [if_pos hn] at hR
    have HR := Lib.hid hR
    have hne : (((n : Nat) : Int) != 0) = true := by rw [bne_iff_ne]; omega
    clear hR hok hn
    go_enter Tryz.func26, Tryz.ntmps26
    go_wp2_with fail
    generalize ((w.alloc (.cells #[.int .i64 b, .int .i64 r, .int .i64 s] 49)).alloc (.cells #[.string ⟨#[]⟩, .string ⟨#[]⟩] 35)) = w0 at X E c0 c1 c2 ⊢
    refine (HK.out _).mono ?_
    rintro e w1 ⟨rfl, hE⟩
    obtain ⟨d0, d1, g0, g1⟩ := X.ext hE
    replace E := E.trans hE
    clear hE X c0 c1 c2
    go_wp2
    refine bodyPost_ret (v := .tuple #[.agg #[txt [], txt []], .int .i64 (n : Nat)]) (by rw [results_cell_tmp1 rfl]; go_simp) rfl ?_
    exact ⟨by rw [HR.out]; rfl, extA⟩
set_option maxHeartbeats 8000000 in
set_option maxRecDepth 100000 in
theorem aLitres_any (c : Cyl) (out : Bool) (p : Int) (w : World) (hG : Glob w) (hk : CylOk c) (h1 : 1 ≤ p) (h2 : p ≤ 2000) : Calls Tryz.prog 78 #[cylV c, .bool out, .int .i64 p] w (EncP (litT c out p, 0) w) := by
  have HG := Lib.hid hG
  have hs1 := hk.s1
  have hs2 := hk.s2
  obtain ⟨b, r, s⟩ := c
  dsimp only at hs1 hs2
  have V := cylV_eq b r s
  have HF := Lib.hid (fun W qa qc (hg : Glob W) hc => face_any ⟨b, r, s⟩ out [(s, 1), (p + 101, 101000000)] qa qc W hg hk.four hc (fun x hx => by
    simp at hx
    rcases hx with rfl | rfl
    · exact qok_small (by omega) (by omega) (by decide) (by decide)
    · exact qok_small (by omega) (by omega) (by decide) (by decide)) (by simp))
  rw [lit_times hk out h1 h2] at HF
  unfold EncP at HF ⊢
  rw [V] at HF ⊢
  generalize litT ⟨b, r, s⟩ out p = tt at HF ⊢
  obtain ⟨t1, t2⟩ := tt
  dsimp only [encV] at HF ⊢
  have u1 : IntKind.i64.wrap (p + 101) = p + 101 := IntWalk.i64_in _ (by omega)
  clear hk hs1 hs2 hG
  have X : EncAt (w.heap.size + 1) ((w.alloc (.cells #[.int .i64 b, .int .i64 r, .int .i64 s] 49)).alloc (.cells #[.string ⟨#[]⟩, .string ⟨#[]⟩] 35)) [] [] := ⟨by go_simp, by go_simp, by go_simp, by go_simp⟩
  have E : Ext w ((w.alloc (.cells #[.int .i64 b, .int .i64 r, .int .i64 s] 49)).alloc (.cells #[.string ⟨#[]⟩, .string ⟨#[]⟩] 35)) := extA
  have E1 : Ext ((w.alloc (.cells #[.int .i64 b, .int .i64 r, .int .i64 s] 49)).alloc (.cells #[.string ⟨#[]⟩, .string ⟨#[]⟩] 35)) (((w.alloc (.cells #[.int .i64 b, .int .i64 r, .int .i64 s] 49)).alloc (.cells #[.string ⟨#[]⟩, .string ⟨#[]⟩] 35)).alloc (.cells #[.int .i64 s, .int .i64 1, .int .i64 (p + 101), .int .i64 101000000] 90)) := extA
  have hz : (((w.alloc (.cells #[.int .i64 b, .int .i64 r, .int .i64 s] 49)).alloc (.cells #[.string ⟨#[]⟩, .string ⟨#[]⟩] 35))).heap.size = w.heap.size + 1 + 1 := by simp
  have HQ := Lib.hid (cellsQt_two ((w.alloc (.cells #[.int .i64 b, .int .i64 r, .int .i64 s] 49)).alloc (.cells #[.string ⟨#[]⟩, .string ⟨#[]⟩] 35)) (s, 1) (p + 101, 101000000) 90)
  rw [hz] at HQ
  have X1 := X.ext E1
  have E2 := E.trans E1
  go_enter Tryz.func78, Tryz.ntmps78
  go_wp2_with fail
  generalize (((w.alloc (.cells #[.int .i64 b, .int .i64 r, .int .i64 s] 49)).alloc (.cells #[.string ⟨#[]⟩, .string ⟨#[]⟩] 35)).alloc (.cells #[.int .i64 s, .int .i64 1, .int .i64 (p + 101), .int .i64 101000000] 90)) = w0 at X1 E2 HQ ⊢
  refine (HF.out _ _ 2 (HG.out.ext E2) HQ.out).mono ?_
  rintro e w2 ⟨rfl, hE⟩
  obtain ⟨d0, d1, g0, g1⟩ := X1.ext hE
  replace E := E2.trans hE
  clear hE X1 E2 X E1
  go_wp2
  refine bodyPost_ret (v := .tuple #[.agg #[txt t1, txt t2], .int .i64 0]) (by rw [results_cell_tmp1 rfl]; go_simp) rfl ?_
  exact ⟨rfl, extA⟩
set_option maxHeartbeats 8000000 in
set_option maxRecDepth 100000 in
theorem aStroke_any (c : Cyl) (out : Bool) (p : Int) (w : World) (hG : Glob w) : Calls Tryz.prog 32 #[cylV c, .bool out, .int .i64 p] w (EncP (strokeS c out p) w) := by
  have HK := Lib.hid (fun W => aChecked_any c p W)
  have HG := Lib.hid hG
  obtain ⟨R, hR⟩ : ∃ R, R = strokeS c out p := ⟨_, rfl⟩
  rw [← hR]
  unfold strokeS at hR
  have hok := fun h : presE c p = 0 => presOk_of h
  unfold EncP
  clear hG
  obtain ⟨b, r, s⟩ := c
  generalize presE ⟨b, r, s⟩ p = n at HK hR hok
  have V := cylV_eq b r s
  have X : EncAt (w.heap.size + 1) ((w.alloc (.cells #[.int .i64 b, .int .i64 r, .int .i64 s] 49)).alloc (.cells #[.string ⟨#[]⟩, .string ⟨#[]⟩] 35)) [] [] := ⟨by go_simp, by go_simp, by go_simp, by go_simp⟩
  have E : Ext w ((w.alloc (.cells #[.int .i64 b, .int .i64 r, .int .i64 s] 49)).alloc (.cells #[.string ⟨#[]⟩, .string ⟨#[]⟩] 35)) := extA
  have c0 : (((w.alloc (.cells #[.int .i64 b, .int .i64 r, .int .i64 s] 49)).alloc (.cells #[.string ⟨#[]⟩, .string ⟨#[]⟩] 35))).cell? ⟨w.heap.size, 0, none⟩ = some (.int .i64 b) := by go_simp
  have c1 : (((w.alloc (.cells #[.int .i64 b, .int .i64 r, .int .i64 s] 49)).alloc (.cells #[.string ⟨#[]⟩, .string ⟨#[]⟩] 35))).cell? ⟨w.heap.size, 1, none⟩ = some (.int .i64 r) := by go_simp
  have c2 : (((w.alloc (.cells #[.int .i64 b, .int .i64 r, .int .i64 s] 49)).alloc (.cells #[.string ⟨#[]⟩, .string ⟨#[]⟩] 35))).cell? ⟨w.heap.size, 2, none⟩ = some (.int .i64 s) := by go_simp
  rw [V] at HK ⊢
  by_cases hn : n = 0
  · subst hn
    rw [if_neg (by simp)] at hR
    have hk := hok rfl
    clear hok
    have HF := Lib.hid (fun W (hg : Glob W) => aLitres_any ⟨b, r, s⟩ out p W hg hk.1 hk.2.1 hk.2.2)
    unfold EncP at HF
    rw [V] at HF
    generalize litT ⟨b, r, s⟩ out p = tt at HF hR
    obtain ⟨t1, t2⟩ := tt
    dsimp only [encV] at HF
    have HR := Lib.hid hR
    clear hR hk
    go_enter Tryz.func32, Tryz.ntmps32
    go_wp2_with fail
    generalize ((w.alloc (.cells #[.int .i64 b, .int .i64 r, .int .i64 s] 49)).alloc (.cells #[.string ⟨#[]⟩, .string ⟨#[]⟩] 35)) = w0 at X E c0 c1 c2 ⊢
    refine (HK.out _).mono ?_
    rintro e w1 ⟨rfl, hE⟩
    replace X := X.ext hE
    replace E := E.trans hE
    have c0 := (hE).cell c0
    have c1 := (hE).cell c1
    have c2 := (hE).cell c2
    have z0 := cell_lt c0
    have z1 := cell_lt X.c0
    dsimp only at z0 z1
    clear hE
    go_wp2_with fail
    refine (HF.out _ (HG.out.ext E)).mono ?_
    rintro e w2 ⟨rfl, hE⟩
    obtain ⟨d0, d1, g0, g1⟩ := X.ext hE
    replace E := E.trans hE
    clear hE X c0 c1 c2 z0 z1
    go_wp2
    refine bodyPost_ret (v := .tuple #[.agg #[txt t1, txt t2], .int .i64 0]) (by rw [results_cell_tmp1 rfl]; go_simp) rfl ?_
    exact ⟨by rw [HR.out]; rfl, extA⟩
  · rw [if_pos hn] at hR
    have HR := Lib.hid hR
    have hne : (((n : Nat) : Int) != 0) = true := by rw [bne_iff_ne]; omega
    clear hR hok hn
    go_enter Tryz.func32, Tryz.ntmps32
    go_wp2_with fail
    generalize ((w.alloc (.cells #[.int .i64 b, .int .i64 r, .int .i64 s] 49)).alloc (.cells #[.string ⟨#[]⟩, .string ⟨#[]⟩] 35)) = w0 at X E c0 c1 c2 ⊢
    refine (HK.out _).mono ?_
    rintro e w1 ⟨rfl, hE⟩
    obtain ⟨d0, d1, g0, g1⟩ := X.ext hE
    replace E := E.trans hE
    clear hE X c0 c1 c2
    go_wp2
    refine bodyPost_ret (v := .tuple #[.agg #[txt [], txt []], .int .i64 (n : Nat)]) (by rw [results_cell_tmp1 rfl]; go_simp) rfl ?_
    exact ⟨by rw [HR.out]; rfl, extA⟩
end Go.Proofs.YtlnonmmaknhppaaGreatDoor
namespace Go.Proofs.YtlnonmmaknhppaaGreatDoor
open Go.RowKit
open Go.Lib (decDigits itoa)
theorem rOverQ_any (n d : Int) (w : World) (h : QOk (n, d)) : Calls Tryz.prog 120 #[.int .i64 n, .int .i64 d] w fun e w' => e = .returned (txt (quoT (n, d))) ∧ Ext w w' := by
  have k1 := h.n0
  have k2 := h.n1
  have k3 := h.d0
  have k4 := h.d1
  dsimp only at k1 k2 k3 k4
  have H := Lib.hid (ofR_any n d w (by omega) (by omega) (by omega) (by omega))
  rw [h.is.1] at H
  generalize quoT (n, d) = t at H ⊢
  clear h
  go_enter Tryz.func120, Tryz.ntmps120
  go_wp2_with fail
  refine H.out.mono ?_
  rintro e w1 ⟨rfl, hE⟩
  go_wp2
  go_ret
  exact ⟨rfl, hE⟩
theorem rPi_any (w : World) : Calls Tryz.prog 119 #[] w fun e w' => e = .returned (encV piE) ∧ Ext w w' := by
  go_enter Tryz.func119, Tryz.ntmps119
  go_wp2
  refine bodyPost_ret (v := .agg #[txt [50, 50, 51, 47, 55, 49], txt [50, 50, 47, 55]]) (by rw [results_cell1 rfl]; go_simp) rfl ?_
  exact ⟨rfl, extA⟩
set_option maxHeartbeats 4000000 in
set_option maxRecDepth 100000 in
theorem rPoint5_any (n d : Int) (w : World) (h : QOk (n, d)) : Calls Tryz.prog 75 #[.int .i64 n, .int .i64 d] w fun e w' => e = .returned (encV (quoT (n, d), quoT (n, d))) ∧ Ext w w' := by
  have HO := Lib.hid (fun W => rOverQ_any n d W h)
  clear h
  generalize quoT (n, d) = t at HO ⊢
  dsimp only [encV]
  have X : EncAt w.heap.size (w.alloc (.cells #[.string ⟨#[]⟩, .string ⟨#[]⟩] 35)) [] [] := ⟨by go_simp, by go_simp, by go_simp, by go_simp⟩
  have E : Ext w (w.alloc (.cells #[.string ⟨#[]⟩, .string ⟨#[]⟩] 35)) := extA
  go_enter Tryz.func75, Tryz.ntmps75
  go_wp2_with fail
  generalize (w.alloc (.cells #[.string ⟨#[]⟩, .string ⟨#[]⟩] 35)) = w0 at X E ⊢
  refine (HO.out _).mono ?_
  rintro e w1 ⟨rfl, hE⟩
  replace X := X.ext hE
  replace E := E.trans hE
  clear hE
  go_wp2_with fail
  refine (HO.out _).mono ?_
  rintro e w2 ⟨rfl, hE⟩
  obtain ⟨d0, d1, g0, g1⟩ := X.ext hE
  replace E := E.trans hE
  clear hE X
  go_wp2
  refine bodyPost_ret (v := .agg #[txt t, txt t]) (by rw [results_cell1 rfl]; go_simp) rfl ?_
  exact ⟨rfl, extA⟩
set_option maxHeartbeats 4000000 in
set_option maxRecDepth 100000 in
theorem rTimes5_any (a b r : Enc) (w : World) (ha : LenE a) (hb : LenE b) (hm : mulE a b = (r, 0)) : Calls Tryz.prog 74 #[encV a, encV b] w fun e w' => e = .returned (encV r) ∧ Ext w w' := by
  have HM := Lib.hid (fun W => rMul2_any a b W ha hb)
  rw [hm] at HM
  clear hm ha hb
  obtain ⟨a1, a2⟩ := a
  obtain ⟨b1, b2⟩ := b
  obtain ⟨r1, r2⟩ := r
  unfold EncP at HM
  dsimp only [encV] at HM ⊢
  have X : EncAt (w.heap.size + 1 + 1) (((w.alloc (.cells #[txt a1, txt a2] 35)).alloc (.cells #[txt b1, txt b2] 35)).alloc (.cells #[.string ⟨#[]⟩, .string ⟨#[]⟩] 35)) [] [] := ⟨by go_simp, by go_simp, by go_simp, by go_simp⟩
  have E : Ext w (((w.alloc (.cells #[txt a1, txt a2] 35)).alloc (.cells #[txt b1, txt b2] 35)).alloc (.cells #[.string ⟨#[]⟩, .string ⟨#[]⟩] 35)) := extA
  go_enter Tryz.func74, Tryz.ntmps74
  go_wp2_with fail
  generalize (((w.alloc (.cells #[txt a1, txt a2] 35)).alloc (.cells #[txt b1, txt b2] 35)).alloc (.cells #[.string ⟨#[]⟩, .string ⟨#[]⟩] 35)) = w0 at X E ⊢
  refine (HM.out _).mono ?_
  rintro e w1 ⟨rfl, hE⟩
  obtain ⟨d0, d1, g0, g1⟩ := X.ext hE
  replace E := E.trans hE
  have z0 := cell_lt d0
  dsimp only at z0
  clear hE X
  go_wp2
  refine bodyPost_ret (v := .agg #[txt r1, txt r2]) (by rw [results_cell1 rfl]; go_simp) rfl ?_
  exact ⟨rfl, extA⟩
set_option maxHeartbeats 8000000 in
set_option maxRecDepth 100000 in
theorem rFace_any (c : Cyl) (out : Bool) (w : World) (hk : CylOk c) : Calls Tryz.prog 73 #[cylV c, .bool out] w fun e w' => e = .returned (encV (faceT c out)) ∧ Ext w w' := by
  have hfb := faceN_bd hk out
  have hq : QOk (faceN c out, 4) := qok_small (by omega) (by omega) (by decide) (by decide)
  have HP := Lib.hid (fun W => rPoint5_any (faceN c out) 4 W hq)
  have HM := Lib.hid (fun W => rTimes5_any piE (quoT (faceN c out, 4), quoT (faceN c out, 4)) (faceT c out) W ⟨by decide, by decide⟩ ⟨hq.is.2.1, hq.is.2.1⟩ (face_quo hk out).mul)
  obtain ⟨⟨t1, t2⟩, ht⟩ : ∃ t, t = faceT c out := ⟨_, rfl⟩
  rw [← ht] at HM ⊢
  obtain ⟨b, r, s⟩ := c
  obtain ⟨h1, h2, h3, h4, _, _⟩ := hk
  dsimp only at h1 h2 h3 h4
  have q1 : b * b ≤ 500 * 500 := Int.mul_le_mul h2 h2 (by omega) (by omega)
  have q2 : 0 ≤ b * b := Int.mul_nonneg (by omega) (by omega)
  have q3 : r * r ≤ 500 * 500 := Int.mul_le_mul (by omega) (by omega) h3 (by omega)
  have q4 : 0 ≤ r * r := Int.mul_nonneg h3 h3
  have u1 : IntKind.i64.wrap (b * b) = b * b := IntWalk.i64_in _ (by omega)
  have u2 : IntKind.i64.wrap (r * r) = r * r := IntWalk.i64_in _ (by omega)
  have u3 : IntKind.i64.wrap (b * b - r * r) = b * b - r * r := IntWalk.i64_in _ (by omega)
  clear q1 q2 q3 q4 h1 h2 h3 h4 hq hfb ht
  dsimp only [cylV]
  dsimp only [encV] at HM HP ⊢
  dsimp only [piE] at HM
  have X : EncAt (w.heap.size + 1) ((w.alloc (.cells #[.int .i64 b, .int .i64 r, .int .i64 s] 46)).alloc (.cells #[.string ⟨#[]⟩, .string ⟨#[]⟩] 35)) [] [] := ⟨by go_simp, by go_simp, by go_simp, by go_simp⟩
  have E : Ext w ((w.alloc (.cells #[.int .i64 b, .int .i64 r, .int .i64 s] 46)).alloc (.cells #[.string ⟨#[]⟩, .string ⟨#[]⟩] 35)) := extA
  cases out
  · rw [show faceN ⟨b, r, s⟩ false = b * b - r * r from rfl] at HP HM
    go_enter Tryz.func73, Tryz.ntmps73
    go_wp2_with fail
    generalize ((w.alloc (.cells #[.int .i64 b, .int .i64 r, .int .i64 s] 46)).alloc (.cells #[.string ⟨#[]⟩, .string ⟨#[]⟩] 35)) = w0 at X E ⊢
    refine (rPi_any _).mono ?_
    rintro e w1 ⟨rfl, hE⟩
    replace X := X.ext hE
    replace E := E.trans hE
    clear hE
    go_wp2_with fail
    refine (HP.out _).mono ?_
    rintro e w2 ⟨rfl, hE⟩
    replace X := X.ext hE
    replace E := E.trans hE
    clear hE
    go_wp2_with fail
    refine (HM.out _).mono ?_
    rintro e w3 ⟨rfl, hE⟩
    obtain ⟨d0, d1, g0, g1⟩ := X.ext hE
    replace E := E.trans hE
    clear hE X
    go_wp2
    refine bodyPost_ret (v := .agg #[txt t1, txt t2]) (by rw [results_cell1 rfl]; go_simp) rfl ?_
    exact ⟨rfl, extA⟩
  · rw [show faceN ⟨b, r, s⟩ true = b * b from rfl] at HP HM
    go_enter Tryz.func73, Tryz.ntmps73
    go_wp2_with fail
    generalize ((w.alloc (.cells #[.int .i64 b, .int .i64 r, .int .i64 s] 46)).alloc (.cells #[.string ⟨#[]⟩, .string ⟨#[]⟩] 35)) = w0 at X E ⊢
    refine (rPi_any _).mono ?_
    rintro e w1 ⟨rfl, hE⟩
    replace X := X.ext hE
    replace E := E.trans hE
    clear hE
    go_wp2_with fail
    refine (HP.out _).mono ?_
    rintro e w2 ⟨rfl, hE⟩
    replace X := X.ext hE
    replace E := E.trans hE
    clear hE
    go_wp2_with fail
    refine (HM.out _).mono ?_
    rintro e w3 ⟨rfl, hE⟩
    obtain ⟨d0, d1, g0, g1⟩ := X.ext hE
    replace E := E.trans hE
    clear hE X
    go_wp2
    refine bodyPost_ret (v := .agg #[txt t1, txt t2]) (by rw [results_cell1 rfl]; go_simp) rfl ?_
    exact ⟨rfl, extA⟩
set_option maxHeartbeats 8000000 in
set_option maxRecDepth 100000 in
theorem rPush_any (c : Cyl) (out : Bool) (p : Int) (w : World) (hk : CylOk c) (h1 : 1 ≤ p) (h2 : p ≤ 2000) : Calls Tryz.prog 60 #[cylV c, .bool out, .int .i64 p] w fun e w' => e = .returned (encV (forceT c out p)) ∧ Ext w w' := by
  have hq : QOk (p, 1000) := qok_small (by omega) (by omega) (by decide) (by decide)
  have HF := Lib.hid (fun W => rFace_any c out W hk)
  have HP := Lib.hid (fun W => rPoint5_any p 1000 W hq)
  have HM := Lib.hid (fun W => rTimes5_any (faceT c out) (quoT (p, 1000), quoT (p, 1000)) (forceT c out p) W (face_good hk out).len ⟨hq.is.2.1, hq.is.2.1⟩ (force_quo hk out h1 h2).mul)
  clear hk h1 h2 hq
  generalize faceT c out = f at HF HM
  generalize quoT (p, 1000) = q at HP HM
  generalize forceT c out p = t at HM ⊢
  obtain ⟨f1, f2⟩ := f
  obtain ⟨t1, t2⟩ := t
  obtain ⟨b, r, s⟩ := c
  dsimp only [encV, cylV] at *
  have X : EncAt (w.heap.size + 1) ((w.alloc (.cells #[.int .i64 b, .int .i64 r, .int .i64 s] 46)).alloc (.cells #[.string ⟨#[]⟩, .string ⟨#[]⟩] 35)) [] [] := ⟨by go_simp, by go_simp, by go_simp, by go_simp⟩
  have E : Ext w ((w.alloc (.cells #[.int .i64 b, .int .i64 r, .int .i64 s] 46)).alloc (.cells #[.string ⟨#[]⟩, .string ⟨#[]⟩] 35)) := extA
  go_enter Tryz.func60, Tryz.ntmps60
  go_wp2_with fail
  generalize ((w.alloc (.cells #[.int .i64 b, .int .i64 r, .int .i64 s] 46)).alloc (.cells #[.string ⟨#[]⟩, .string ⟨#[]⟩] 35)) = w0 at X E ⊢
  refine (HF.out _).mono ?_
  rintro e w1 ⟨rfl, hE⟩
  replace X := X.ext hE
  replace E := E.trans hE
  clear hE
  go_wp2_with fail
  refine (HP.out _).mono ?_
  rintro e w2 ⟨rfl, hE⟩
  replace X := X.ext hE
  replace E := E.trans hE
  clear hE
  go_wp2_with fail
  refine (HM.out _).mono ?_
  rintro e w3 ⟨rfl, hE⟩
  obtain ⟨d0, d1, g0, g1⟩ := X.ext hE
  replace E := E.trans hE
  clear hE X
  go_wp2
  refine bodyPost_ret (v := .agg #[txt t1, txt t2]) (by rw [results_cell1 rfl]; go_simp) rfl ?_
  exact ⟨rfl, extA⟩
set_option maxHeartbeats 8000000 in
set_option maxRecDepth 100000 in
theorem rLitres_any (c : Cyl) (out : Bool) (p : Int) (w : World) (hk : CylOk c) (h1 : 1 ≤ p) (h2 : p ≤ 2000) : Calls Tryz.prog 79 #[cylV c, .bool out, .int .i64 p] w fun e w' => e = .returned (encV (litT c out p)) ∧ Ext w w' := by
  have hs1 := hk.s1
  have hs2 := hk.s2
  have hq : QOk (c.stroke, 1) := qok_small (by omega) (by omega) (by decide) (by decide)
  have hr : QOk (p + 101, 101000000) := qok_small (by omega) (by omega) (by decide) (by decide)
  have HF := Lib.hid (fun W => rFace_any c out W hk)
  have HP := Lib.hid (fun W => rPoint5_any c.stroke 1 W hq)
  have HM := Lib.hid (fun W => rTimes5_any (faceT c out) (quoT (c.stroke, 1), quoT (c.stroke, 1)) (volT c out) W (face_good hk out).len ⟨hq.is.2.1, hq.is.2.1⟩ (vol_quo hk out).mul)
  have HP2 := Lib.hid (fun W => rPoint5_any (p + 101) 101000000 W hr)
  have HM2 := Lib.hid (fun W => rTimes5_any (volT c out) (quoT (p + 101, 101000000), quoT (p + 101, 101000000)) (litT c out p) W (vol_good hk out).len ⟨hr.is.2.1, hr.is.2.1⟩ (lit_quo hk out h1 h2).mul)
  have u1 : IntKind.i64.wrap (p + 101) = p + 101 := IntWalk.i64_in _ (by omega)
  clear hk h1 h2 hq hr hs1 hs2
  generalize faceT c out = f at HF HM
  generalize volT c out = g at HM HM2
  generalize quoT (c.stroke, 1) = q at HP HM
  generalize quoT (p + 101, 101000000) = q2 at HP2 HM2
  generalize litT c out p = t at HM2 ⊢
  obtain ⟨f1, f2⟩ := f
  obtain ⟨k1, k2⟩ := g
  obtain ⟨t1, t2⟩ := t
  obtain ⟨b, r, s⟩ := c
  dsimp only [encV, cylV] at *
  have X : EncAt (w.heap.size + 1) ((w.alloc (.cells #[.int .i64 b, .int .i64 r, .int .i64 s] 46)).alloc (.cells #[.string ⟨#[]⟩, .string ⟨#[]⟩] 35)) [] [] := ⟨by go_simp, by go_simp, by go_simp, by go_simp⟩
  have E : Ext w ((w.alloc (.cells #[.int .i64 b, .int .i64 r, .int .i64 s] 46)).alloc (.cells #[.string ⟨#[]⟩, .string ⟨#[]⟩] 35)) := extA
  have c0 : (((w.alloc (.cells #[.int .i64 b, .int .i64 r, .int .i64 s] 46)).alloc (.cells #[.string ⟨#[]⟩, .string ⟨#[]⟩] 35))).cell? ⟨w.heap.size, 0, none⟩ = some (.int .i64 b) := by go_simp
  have c1 : (((w.alloc (.cells #[.int .i64 b, .int .i64 r, .int .i64 s] 46)).alloc (.cells #[.string ⟨#[]⟩, .string ⟨#[]⟩] 35))).cell? ⟨w.heap.size, 1, none⟩ = some (.int .i64 r) := by go_simp
  have c2 : (((w.alloc (.cells #[.int .i64 b, .int .i64 r, .int .i64 s] 46)).alloc (.cells #[.string ⟨#[]⟩, .string ⟨#[]⟩] 35))).cell? ⟨w.heap.size, 2, none⟩ = some (.int .i64 s) := by go_simp
  go_enter Tryz.func79, Tryz.ntmps79
  go_wp2_with fail
  generalize ((w.alloc (.cells #[.int .i64 b, .int .i64 r, .int .i64 s] 46)).alloc (.cells #[.string ⟨#[]⟩, .string ⟨#[]⟩] 35)) = w0 at X E c0 c1 c2 ⊢
  have hD : Ext w0 w0.drew := extA
  replace E := E.trans hD
  replace X := X.ext hD
  have hS : w0.drew.cell? ⟨w.heap.size, 0, none⟩ = some (.int .i64 b) ∧ w0.drew.cell? ⟨w.heap.size, 1, none⟩ = some (.int .i64 r) ∧ w0.drew.cell? ⟨w.heap.size, 2, none⟩ = some (.int .i64 s) := ⟨hD.cell c0, hD.cell c1, hD.cell c2⟩
  refine wp_region_heldE 11 (fun w' => w'.cell? ⟨w.heap.size, 0, none⟩ = some (.int .i64 b) ∧ w'.cell? ⟨w.heap.size, 1, none⟩ = some (.int .i64 r) ∧ w'.cell? ⟨w.heap.size, 2, none⟩ = some (.int .i64 s)) (by kernel_rfl) ?_
  clear c0 c1 c2 hD
  generalize w0.drew = v0 at E X hS ⊢
  ((refine eTk 0 ?_); (refine eTk 3 ?_); (refine eTk 4 ?_))
  ((refine ePu 1 ?_); (refine ePu 7 ?_); (refine ePu 8 ?_))
  (refine wpAnyE_one (i := 2) (o := ?_) ?_ (by kernel_rfl) (fun K hK => ?_); rotate_left; (focus ((simp only [List.getElem?_toArray, List.getElem?_cons_succ, List.getElem?_cons_zero]; exact rfl))); go_simp; refine (HF.out _).mono ?_; rintro e w' ⟨rfl, hE⟩; go_wp2_with fail; refine hK.out _ _ ?_ (fun hHeld => ?_); rotate_left; clear hK K; (try simp only [Act.put, List.setIfInBounds_toArray, List.set_cons_zero, List.set_cons_succ]))
  rotate_left
  · exact ⟨hE.cell hS.1, hE.cell hS.2.1, hE.cell hS.2.2⟩
  replace hS : w'.cell? ⟨w.heap.size, 0, none⟩ = some (.int .i64 b) ∧ w'.cell? ⟨w.heap.size, 1, none⟩ = some (.int .i64 r) ∧ w'.cell? ⟨w.heap.size, 2, none⟩ = some (.int .i64 s) := ⟨hE.cell hS.1, hE.cell hS.2.1, hE.cell hS.2.2⟩
  replace X := X.ext hE
  replace E := E.trans hE
  clear hE hHeld
  generalize w' = v0 at X E hS ⊢
  (refine wpAnyE_one (i := 5) (o := ?_) ?_ (by kernel_rfl) (fun K hK => ?_); rotate_left; (focus ((simp only [List.getElem?_toArray, List.getElem?_cons_succ, List.getElem?_cons_zero]; exact rfl))); go_simp; refine (HP.out _).mono ?_; rintro e w' ⟨rfl, hE⟩; go_wp2_with fail; refine hK.out _ _ ?_ (fun hHeld => ?_); rotate_left; clear hK K; (try simp only [Act.put, List.setIfInBounds_toArray, List.set_cons_zero, List.set_cons_succ]))
  rotate_left
  · exact ⟨hE.cell hS.1, hE.cell hS.2.1, hE.cell hS.2.2⟩
  replace hS : w'.cell? ⟨w.heap.size, 0, none⟩ = some (.int .i64 b) ∧ w'.cell? ⟨w.heap.size, 1, none⟩ = some (.int .i64 r) ∧ w'.cell? ⟨w.heap.size, 2, none⟩ = some (.int .i64 s) := ⟨hE.cell hS.1, hE.cell hS.2.1, hE.cell hS.2.2⟩
  replace X := X.ext hE
  replace E := E.trans hE
  clear hE hHeld
  generalize w' = v0 at X E hS ⊢
  (refine wpAnyE_one (i := 6) (o := ?_) ?_ (by kernel_rfl) (fun K hK => ?_); rotate_left; (focus ((simp only [List.getElem?_toArray, List.getElem?_cons_succ, List.getElem?_cons_zero]; exact rfl))); go_simp; refine (HM.out _).mono ?_; rintro e w' ⟨rfl, hE⟩; go_wp2_with fail; refine hK.out _ _ ?_ (fun hHeld => ?_); rotate_left; clear hK K; (try simp only [Act.put, List.setIfInBounds_toArray, List.set_cons_zero, List.set_cons_succ]))
  rotate_left
  · exact ⟨hE.cell hS.1, hE.cell hS.2.1, hE.cell hS.2.2⟩
  replace hS : w'.cell? ⟨w.heap.size, 0, none⟩ = some (.int .i64 b) ∧ w'.cell? ⟨w.heap.size, 1, none⟩ = some (.int .i64 r) ∧ w'.cell? ⟨w.heap.size, 2, none⟩ = some (.int .i64 s) := ⟨hE.cell hS.1, hE.cell hS.2.1, hE.cell hS.2.2⟩
  replace X := X.ext hE
  replace E := E.trans hE
  clear hE hHeld
  generalize w' = v0 at X E hS ⊢
  (refine wpAnyE_one (i := 9) (o := ?_) ?_ (by kernel_rfl) (fun K hK => ?_); rotate_left; (focus ((simp only [List.getElem?_toArray, List.getElem?_cons_succ, List.getElem?_cons_zero]; exact rfl))); go_simp; refine (HP2.out _).mono ?_; rintro e w' ⟨rfl, hE⟩; go_wp2_with fail; refine hK.out _ _ ?_ (fun hHeld => ?_); rotate_left; clear hK K; (try simp only [Act.put, List.setIfInBounds_toArray, List.set_cons_zero, List.set_cons_succ]))
  rotate_left
  · exact ⟨hE.cell hS.1, hE.cell hS.2.1, hE.cell hS.2.2⟩
  replace hS : w'.cell? ⟨w.heap.size, 0, none⟩ = some (.int .i64 b) ∧ w'.cell? ⟨w.heap.size, 1, none⟩ = some (.int .i64 r) ∧ w'.cell? ⟨w.heap.size, 2, none⟩ = some (.int .i64 s) := ⟨hE.cell hS.1, hE.cell hS.2.1, hE.cell hS.2.2⟩
  replace X := X.ext hE
  replace E := E.trans hE
  clear hE hHeld
  generalize w' = v0 at X E hS ⊢
  (refine wpAnyE_one (i := 10) (o := ?_) ?_ (by kernel_rfl) (fun K hK => ?_); rotate_left; (focus ((simp only [List.getElem?_toArray, List.getElem?_cons_succ, List.getElem?_cons_zero]; exact rfl))); go_simp; refine (HM2.out _).mono ?_; rintro e w' ⟨rfl, hE⟩; go_wp2_with fail; refine hK.out _ _ ?_ (fun hHeld => ?_); rotate_left; clear hK K; (try simp only [Act.put, List.setIfInBounds_toArray, List.set_cons_zero, List.set_cons_succ]))
  rotate_left
  · exact ⟨hE.cell hS.1, hE.cell hS.2.1, hE.cell hS.2.2⟩
  replace hS : w'.cell? ⟨w.heap.size, 0, none⟩ = some (.int .i64 b) ∧ w'.cell? ⟨w.heap.size, 1, none⟩ = some (.int .i64 r) ∧ w'.cell? ⟨w.heap.size, 2, none⟩ = some (.int .i64 s) := ⟨hE.cell hS.1, hE.cell hS.2.1, hE.cell hS.2.2⟩
  replace X := X.ext hE
  replace E := E.trans hE
  clear hE hHeld
  generalize w' = v0 at X E hS ⊢
  obtain ⟨d0, d1, g0, g1⟩ := X
  have z0 := cell_lt d0
  dsimp only at z0
  (refine wpAnyE_free (i := 11) (o := ?_) ?_ (by kernel_rfl) (by kernel_rfl) (fun K hK => ?_); rotate_left; (focus ((simp only [List.getElem?_toArray, List.getElem?_cons_succ, List.getElem?_cons_zero]; exact rfl))); go_simp; refine hK.out _ _ ?_; clear hK K; (try simp only [Act.put, List.setIfInBounds_toArray, List.set_cons_zero, List.set_cons_succ]))
  refine wpAnyE_done (by kernel_rfl) ?_ _
  go_wp2_with fail
  refine bodyPost_ret (v := .agg #[txt t1, txt t2]) (by rw [results_cell1 rfl]; go_simp) rfl ?_
  exact ⟨rfl, extA⟩
end Go.Proofs.YtlnonmmaknhppaaGreatDoor
namespace Go.Proofs.YtlnonmmaknhppaaGreatDoor
open Go.RowKit
open Go.Lib (decDigits itoa)
def Cyl64 (c : Cyl) : Prop := -9223372036854775808 ≤ c.bore ∧ c.bore ≤ 9223372036854775807
set_option maxHeartbeats 8000000 in
set_option maxRecDepth 100000 in
theorem rArea_any (c : Cyl) (out : Bool) (w : World) (h64 : Cyl64 c) : Calls Tryz.prog 25 #[cylV c, .bool out] w (EncP (areaS c out) w) := by
  have HK := Lib.hid (fun W => rCheck5_any c W h64)
  obtain ⟨R, hR⟩ : ∃ R, R = areaS c out := ⟨_, rfl⟩
  rw [← hR]
  unfold areaS at hR
  have hok := fun h : cylE c = 0 => cylOk_of h
  unfold EncP
  clear h64
  obtain ⟨b, r, s⟩ := c
  generalize cylE ⟨b, r, s⟩ = n at HK hR hok
  have V := cylV_eq b r s
  have X : EncAt (w.heap.size + 1) ((w.alloc (.cells #[.int .i64 b, .int .i64 r, .int .i64 s] 46)).alloc (.cells #[.string ⟨#[]⟩, .string ⟨#[]⟩] 35)) [] [] := ⟨by go_simp, by go_simp, by go_simp, by go_simp⟩
  have E : Ext w ((w.alloc (.cells #[.int .i64 b, .int .i64 r, .int .i64 s] 46)).alloc (.cells #[.string ⟨#[]⟩, .string ⟨#[]⟩] 35)) := extA
  have c0 : (((w.alloc (.cells #[.int .i64 b, .int .i64 r, .int .i64 s] 46)).alloc (.cells #[.string ⟨#[]⟩, .string ⟨#[]⟩] 35))).cell? ⟨w.heap.size, 0, none⟩ = some (.int .i64 b) := by go_simp
  have c1 : (((w.alloc (.cells #[.int .i64 b, .int .i64 r, .int .i64 s] 46)).alloc (.cells #[.string ⟨#[]⟩, .string ⟨#[]⟩] 35))).cell? ⟨w.heap.size, 1, none⟩ = some (.int .i64 r) := by go_simp
  have c2 : (((w.alloc (.cells #[.int .i64 b, .int .i64 r, .int .i64 s] 46)).alloc (.cells #[.string ⟨#[]⟩, .string ⟨#[]⟩] 35))).cell? ⟨w.heap.size, 2, none⟩ = some (.int .i64 s) := by go_simp
  rw [V] at HK ⊢
  by_cases hn : n = 0
  · subst hn
    rw [if_neg (by simp)] at hR
    have hk := hok rfl
    clear hok
    have HF := Lib.hid (fun W => rFace_any ⟨b, r, s⟩ out W hk)
    rw [V] at HF
    generalize faceT ⟨b, r, s⟩ out = tt at HF hR
    obtain ⟨t1, t2⟩ := tt
    dsimp only [encV] at HF
    have HR := Lib.hid hR
    clear hR hk
    go_enter Tryz.func25, Tryz.ntmps25
    go_wp2_with fail
    generalize ((w.alloc (.cells #[.int .i64 b, .int .i64 r, .int .i64 s] 46)).alloc (.cells #[.string ⟨#[]⟩, .string ⟨#[]⟩] 35)) = w0 at X E c0 c1 c2 ⊢
    refine (HK.out _).mono ?_
    rintro e w1 ⟨rfl, hE⟩
    replace X := X.ext hE
    replace E := E.trans hE
    have c0 := (hE).cell c0
    have c1 := (hE).cell c1
    have c2 := (hE).cell c2
    clear hE
    go_wp2_with fail
    refine (HF.out _).mono ?_
    rintro e w2 ⟨rfl, hE⟩
    obtain ⟨d0, d1, g0, g1⟩ := X.ext hE
    replace E := E.trans hE
    clear hE X c0 c1 c2
    go_wp2
    refine bodyPost_ret (v := .tuple #[.agg #[txt t1, txt t2], .int .i64 0]) (by rw [results_cell_tmp1 rfl]; go_simp) rfl ?_
    exact ⟨by rw [HR.out]; rfl, extA⟩
  · rw [if_pos hn] at hR
    have HR := Lib.hid hR
    have hne : (((n : Nat) : Int) != 0) = true := by rw [bne_iff_ne]; omega
    clear hR hok hn
    go_enter Tryz.func25, Tryz.ntmps25
    go_wp2_with fail
    generalize ((w.alloc (.cells #[.int .i64 b, .int .i64 r, .int .i64 s] 46)).alloc (.cells #[.string ⟨#[]⟩, .string ⟨#[]⟩] 35)) = w0 at X E c0 c1 c2 ⊢
    refine (HK.out _).mono ?_
    rintro e w1 ⟨rfl, hE⟩
    obtain ⟨d0, d1, g0, g1⟩ := X.ext hE
    replace E := E.trans hE
    clear hE X c0 c1 c2
    go_wp2
    refine bodyPost_ret (v := .tuple #[.agg #[txt [], txt []], .int .i64 (n : Nat)]) (by rw [results_cell_tmp1 rfl]; go_simp) rfl ?_
    exact ⟨by rw [HR.out]; rfl, extA⟩
set_option maxHeartbeats 8000000 in
set_option maxRecDepth 100000 in
theorem rForce_any (c : Cyl) (out : Bool) (p : Int) (w : World) (h64 : Cyl64 c) : Calls Tryz.prog 31 #[cylV c, .bool out, .int .i64 p] w (EncP (forceS c out p) w) := by
  have HK := Lib.hid (fun W => rPressed_any c p W h64)
  obtain ⟨R, hR⟩ : ∃ R, R = forceS c out p := ⟨_, rfl⟩
  rw [← hR]
  unfold forceS at hR
  have hok := fun h : presE c p = 0 => presOk_of h
  unfold EncP
  clear h64
  obtain ⟨b, r, s⟩ := c
  generalize presE ⟨b, r, s⟩ p = n at HK hR hok
  have V := cylV_eq b r s
  have X : EncAt (w.heap.size + 1) ((w.alloc (.cells #[.int .i64 b, .int .i64 r, .int .i64 s] 46)).alloc (.cells #[.string ⟨#[]⟩, .string ⟨#[]⟩] 35)) [] [] := ⟨by go_simp, by go_simp, by go_simp, by go_simp⟩
  have E : Ext w ((w.alloc (.cells #[.int .i64 b, .int .i64 r, .int .i64 s] 46)).alloc (.cells #[.string ⟨#[]⟩, .string ⟨#[]⟩] 35)) := extA
  have c0 : (((w.alloc (.cells #[.int .i64 b, .int .i64 r, .int .i64 s] 46)).alloc (.cells #[.string ⟨#[]⟩, .string ⟨#[]⟩] 35))).cell? ⟨w.heap.size, 0, none⟩ = some (.int .i64 b) := by go_simp
  have c1 : (((w.alloc (.cells #[.int .i64 b, .int .i64 r, .int .i64 s] 46)).alloc (.cells #[.string ⟨#[]⟩, .string ⟨#[]⟩] 35))).cell? ⟨w.heap.size, 1, none⟩ = some (.int .i64 r) := by go_simp
  have c2 : (((w.alloc (.cells #[.int .i64 b, .int .i64 r, .int .i64 s] 46)).alloc (.cells #[.string ⟨#[]⟩, .string ⟨#[]⟩] 35))).cell? ⟨w.heap.size, 2, none⟩ = some (.int .i64 s) := by go_simp
  rw [V] at HK ⊢
  by_cases hn : n = 0
  · subst hn
    rw [if_neg (by simp)] at hR
    have hk := hok rfl
    clear hok
    have HF := Lib.hid (fun W => rPush_any ⟨b, r, s⟩ out p W hk.1 hk.2.1 hk.2.2)
    rw [V] at HF
    generalize forceT ⟨b, r, s⟩ out p = tt at HF hR
    obtain ⟨t1, t2⟩ := tt
    dsimp only [encV] at HF
    have HR := Lib.hid hR
    clear hR hk
    go_enter Tryz.func31, Tryz.ntmps31
    go_wp2_with fail
    generalize ((w.alloc (.cells #[.int .i64 b, .int .i64 r, .int .i64 s] 46)).alloc (.cells #[.string ⟨#[]⟩, .string ⟨#[]⟩] 35)) = w0 at X E c0 c1 c2 ⊢
    refine (HK.out _).mono ?_
    rintro e w1 ⟨rfl, hE⟩
    replace X := X.ext hE
    replace E := E.trans hE
    have c0 := (hE).cell c0
    have c1 := (hE).cell c1
    have c2 := (hE).cell c2
    clear hE
    go_wp2_with fail
    refine (HF.out _).mono ?_
    rintro e w2 ⟨rfl, hE⟩
    obtain ⟨d0, d1, g0, g1⟩ := X.ext hE
    replace E := E.trans hE
    clear hE X c0 c1 c2
    go_wp2
    refine bodyPost_ret (v := .tuple #[.agg #[txt t1, txt t2], .int .i64 0]) (by rw [results_cell_tmp1 rfl]; go_simp) rfl ?_
    exact ⟨by rw [HR.out]; rfl, extA⟩
  · rw [if_pos hn] at hR
    have HR := Lib.hid hR
    have hne : (((n : Nat) : Int) != 0) = true := by rw [bne_iff_ne]; omega
    clear hR hok hn
    go_enter Tryz.func31, Tryz.ntmps31
    go_wp2_with fail
    generalize ((w.alloc (.cells #[.int .i64 b, .int .i64 r, .int .i64 s] 46)).alloc (.cells #[.string ⟨#[]⟩, .string ⟨#[]⟩] 35)) = w0 at X E c0 c1 c2 ⊢
    refine (HK.out _).mono ?_
    rintro e w1 ⟨rfl, hE⟩
    obtain ⟨d0, d1, g0, g1⟩ := X.ext hE
    replace E := E.trans hE
    clear hE X c0 c1 c2
    go_wp2
    refine bodyPost_ret (v := .tuple #[.agg #[txt [], txt []], .int .i64 (n : Nat)]) (by rw [results_cell_tmp1 rfl]; go_simp) rfl ?_
    exact ⟨by rw [HR.out]; rfl, extA⟩
set_option maxHeartbeats 8000000 in
set_option maxRecDepth 100000 in
theorem rStroke_any (c : Cyl) (out : Bool) (p : Int) (w : World) (h64 : Cyl64 c) : Calls Tryz.prog 33 #[cylV c, .bool out, .int .i64 p] w (EncP (strokeS c out p) w) := by
  have HK := Lib.hid (fun W => rPressed_any c p W h64)
  obtain ⟨R, hR⟩ : ∃ R, R = strokeS c out p := ⟨_, rfl⟩
  rw [← hR]
  unfold strokeS at hR
  have hok := fun h : presE c p = 0 => presOk_of h
  unfold EncP
  clear h64
  obtain ⟨b, r, s⟩ := c
  generalize presE ⟨b, r, s⟩ p = n at HK hR hok
  have V := cylV_eq b r s
  have X : EncAt (w.heap.size + 1) ((w.alloc (.cells #[.int .i64 b, .int .i64 r, .int .i64 s] 46)).alloc (.cells #[.string ⟨#[]⟩, .string ⟨#[]⟩] 35)) [] [] := ⟨by go_simp, by go_simp, by go_simp, by go_simp⟩
  have E : Ext w ((w.alloc (.cells #[.int .i64 b, .int .i64 r, .int .i64 s] 46)).alloc (.cells #[.string ⟨#[]⟩, .string ⟨#[]⟩] 35)) := extA
  have c0 : (((w.alloc (.cells #[.int .i64 b, .int .i64 r, .int .i64 s] 46)).alloc (.cells #[.string ⟨#[]⟩, .string ⟨#[]⟩] 35))).cell? ⟨w.heap.size, 0, none⟩ = some (.int .i64 b) := by go_simp
  have c1 : (((w.alloc (.cells #[.int .i64 b, .int .i64 r, .int .i64 s] 46)).alloc (.cells #[.string ⟨#[]⟩, .string ⟨#[]⟩] 35))).cell? ⟨w.heap.size, 1, none⟩ = some (.int .i64 r) := by go_simp
  have c2 : (((w.alloc (.cells #[.int .i64 b, .int .i64 r, .int .i64 s] 46)).alloc (.cells #[.string ⟨#[]⟩, .string ⟨#[]⟩] 35))).cell? ⟨w.heap.size, 2, none⟩ = some (.int .i64 s) := by go_simp
  rw [V] at HK ⊢
  by_cases hn : n = 0
  · subst hn
    rw [if_neg (by simp)] at hR
    have hk := hok rfl
    clear hok
    have HF := Lib.hid (fun W => rLitres_any ⟨b, r, s⟩ out p W hk.1 hk.2.1 hk.2.2)
    rw [V] at HF
    generalize litT ⟨b, r, s⟩ out p = tt at HF hR
    obtain ⟨t1, t2⟩ := tt
    dsimp only [encV] at HF
    have HR := Lib.hid hR
    clear hR hk
    go_enter Tryz.func33, Tryz.ntmps33
    go_wp2_with fail
    generalize ((w.alloc (.cells #[.int .i64 b, .int .i64 r, .int .i64 s] 46)).alloc (.cells #[.string ⟨#[]⟩, .string ⟨#[]⟩] 35)) = w0 at X E c0 c1 c2 ⊢
    refine (HK.out _).mono ?_
    rintro e w1 ⟨rfl, hE⟩
    replace X := X.ext hE
    replace E := E.trans hE
    have c0 := (hE).cell c0
    have c1 := (hE).cell c1
    have c2 := (hE).cell c2
    clear hE
    go_wp2_with fail
    refine (HF.out _).mono ?_
    rintro e w2 ⟨rfl, hE⟩
    obtain ⟨d0, d1, g0, g1⟩ := X.ext hE
    replace E := E.trans hE
    clear hE X c0 c1 c2
    go_wp2
    refine bodyPost_ret (v := .tuple #[.agg #[txt t1, txt t2], .int .i64 0]) (by rw [results_cell_tmp1 rfl]; go_simp) rfl ?_
    exact ⟨by rw [HR.out]; rfl, extA⟩
  · rw [if_pos hn] at hR
    have HR := Lib.hid hR
    have hne : (((n : Nat) : Int) != 0) = true := by rw [bne_iff_ne]; omega
    clear hR hok hn
    go_enter Tryz.func33, Tryz.ntmps33
    go_wp2_with fail
    generalize ((w.alloc (.cells #[.int .i64 b, .int .i64 r, .int .i64 s] 46)).alloc (.cells #[.string ⟨#[]⟩, .string ⟨#[]⟩] 35)) = w0 at X E c0 c1 c2 ⊢
    refine (HK.out _).mono ?_
    rintro e w1 ⟨rfl, hE⟩
    obtain ⟨d0, d1, g0, g1⟩ := X.ext hE
    replace E := E.trans hE
    clear hE X c0 c1 c2
    go_wp2
    refine bodyPost_ret (v := .tuple #[.agg #[txt [], txt []], .int .i64 (n : Nat)]) (by rw [results_cell_tmp1 rfl]; go_simp) rfl ?_
    exact ⟨by rw [HR.out]; rfl, extA⟩
set_option maxHeartbeats 8000000 in
set_option maxRecDepth 100000 in
theorem rVolume_any (c : Cyl) (out : Bool) (w : World) (h64 : Cyl64 c) : Calls Tryz.prog 27 #[cylV c, .bool out] w (EncP (volumeS c out) w) := by
  have HK := Lib.hid (fun W => rCheck5_any c W h64)
  obtain ⟨R, hR⟩ : ∃ R, R = volumeS c out := ⟨_, rfl⟩
  rw [← hR]
  unfold volumeS at hR
  have hok := fun h : cylE c = 0 => cylOk_of h
  unfold EncP
  clear h64
  obtain ⟨b, r, s⟩ := c
  generalize cylE ⟨b, r, s⟩ = n at HK hR hok
  have V := cylV_eq b r s
  have X : EncAt (w.heap.size + 1) ((w.alloc (.cells #[.int .i64 b, .int .i64 r, .int .i64 s] 46)).alloc (.cells #[.string ⟨#[]⟩, .string ⟨#[]⟩] 35)) [] [] := ⟨by go_simp, by go_simp, by go_simp, by go_simp⟩
  have E : Ext w ((w.alloc (.cells #[.int .i64 b, .int .i64 r, .int .i64 s] 46)).alloc (.cells #[.string ⟨#[]⟩, .string ⟨#[]⟩] 35)) := extA
  have c0 : (((w.alloc (.cells #[.int .i64 b, .int .i64 r, .int .i64 s] 46)).alloc (.cells #[.string ⟨#[]⟩, .string ⟨#[]⟩] 35))).cell? ⟨w.heap.size, 0, none⟩ = some (.int .i64 b) := by go_simp
  have c1 : (((w.alloc (.cells #[.int .i64 b, .int .i64 r, .int .i64 s] 46)).alloc (.cells #[.string ⟨#[]⟩, .string ⟨#[]⟩] 35))).cell? ⟨w.heap.size, 1, none⟩ = some (.int .i64 r) := by go_simp
  have c2 : (((w.alloc (.cells #[.int .i64 b, .int .i64 r, .int .i64 s] 46)).alloc (.cells #[.string ⟨#[]⟩, .string ⟨#[]⟩] 35))).cell? ⟨w.heap.size, 2, none⟩ = some (.int .i64 s) := by go_simp
  rw [V] at HK ⊢
  by_cases hn : n = 0
  · subst hn
    rw [if_neg (by simp)] at hR
    have hk := hok rfl
    clear hok
    have hs1 := hk.s1
    have hs2 := hk.s2
    dsimp only at hs1 hs2
    have hq : QOk (s, 1) := qok_small (by omega) (by omega) (by decide) (by decide)
    have HF := Lib.hid (fun W => rFace_any ⟨b, r, s⟩ out W hk)
    rw [V] at HF
    have HP := Lib.hid (fun W => rPoint5_any s 1 W hq)
    have HM := Lib.hid (fun W => rTimes5_any (faceT ⟨b, r, s⟩ out) (quoT (s, 1), quoT (s, 1)) (volT ⟨b, r, s⟩ out) W (face_good hk out).len ⟨hq.is.2.1, hq.is.2.1⟩ (vol_quo hk out).mul)
    clear hq hs1 hs2
    generalize faceT ⟨b, r, s⟩ out = f at HF HM
    generalize quoT (s, 1) = q at HP HM
    generalize volT ⟨b, r, s⟩ out = tt at HM hR
    obtain ⟨f1, f2⟩ := f
    obtain ⟨t1, t2⟩ := tt
    dsimp only [encV] at HF HP HM
    have HR := Lib.hid hR
    clear hR hk
    go_enter Tryz.func27, Tryz.ntmps27
    go_wp2_with fail
    generalize ((w.alloc (.cells #[.int .i64 b, .int .i64 r, .int .i64 s] 46)).alloc (.cells #[.string ⟨#[]⟩, .string ⟨#[]⟩] 35)) = w0 at X E c0 c1 c2 ⊢
    refine (HK.out _).mono ?_
    rintro e w1 ⟨rfl, hE⟩
    replace X := X.ext hE
    replace E := E.trans hE
    have c0 := (hE).cell c0
    have c1 := (hE).cell c1
    have c2 := (hE).cell c2
    clear hE
    go_wp2_with fail
    have hD : Ext w1 w1.drew := extA
    replace E := E.trans hD
    replace X := X.ext hD
    have hS : w1.drew.cell? ⟨w.heap.size, 0, none⟩ = some (.int .i64 b) ∧ w1.drew.cell? ⟨w.heap.size, 1, none⟩ = some (.int .i64 r) ∧ w1.drew.cell? ⟨w.heap.size, 2, none⟩ = some (.int .i64 s) := ⟨hD.cell c0, hD.cell c1, hD.cell c2⟩
    refine wp_region_heldE 7 (fun w' => w'.cell? ⟨w.heap.size, 0, none⟩ = some (.int .i64 b) ∧ w'.cell? ⟨w.heap.size, 1, none⟩ = some (.int .i64 r) ∧ w'.cell? ⟨w.heap.size, 2, none⟩ = some (.int .i64 s)) (by kernel_rfl) ?_
    clear c0 c1 c2 hD
    generalize w1.drew = v0 at E X hS ⊢
    ((refine eTk 0 ?_); (refine eTk 3 ?_); (refine eTk 4 ?_))
    (refine ePu 1 ?_)
    (refine wpAnyE_one (i := 2) (o := ?_) ?_ (by kernel_rfl) (fun K hK => ?_); rotate_left; (focus ((simp only [List.getElem?_toArray, List.getElem?_cons_succ, List.getElem?_cons_zero]; exact rfl))); go_simp; refine (HF.out _).mono ?_; rintro e w' ⟨rfl, hE⟩; go_wp2_with fail; refine hK.out _ _ ?_ (fun hHeld => ?_); rotate_left; clear hK K; (try simp only [Act.put, List.setIfInBounds_toArray, List.set_cons_zero, List.set_cons_succ]))
    rotate_left
    · exact ⟨hE.cell hS.1, hE.cell hS.2.1, hE.cell hS.2.2⟩
    replace hS : w'.cell? ⟨w.heap.size, 0, none⟩ = some (.int .i64 b) ∧ w'.cell? ⟨w.heap.size, 1, none⟩ = some (.int .i64 r) ∧ w'.cell? ⟨w.heap.size, 2, none⟩ = some (.int .i64 s) := ⟨hE.cell hS.1, hE.cell hS.2.1, hE.cell hS.2.2⟩
    replace X := X.ext hE
    replace E := E.trans hE
    clear hE hHeld
    generalize w' = v0 at X E hS ⊢
    (refine wpAnyE_one (i := 5) (o := ?_) ?_ (by kernel_rfl) (fun K hK => ?_); rotate_left; (focus ((simp only [List.getElem?_toArray, List.getElem?_cons_succ, List.getElem?_cons_zero]; exact rfl))); go_simp; refine (HP.out _).mono ?_; rintro e w' ⟨rfl, hE⟩; go_wp2_with fail; refine hK.out _ _ ?_ (fun hHeld => ?_); rotate_left; clear hK K; (try simp only [Act.put, List.setIfInBounds_toArray, List.set_cons_zero, List.set_cons_succ]))
    rotate_left
    · exact ⟨hE.cell hS.1, hE.cell hS.2.1, hE.cell hS.2.2⟩
    replace hS : w'.cell? ⟨w.heap.size, 0, none⟩ = some (.int .i64 b) ∧ w'.cell? ⟨w.heap.size, 1, none⟩ = some (.int .i64 r) ∧ w'.cell? ⟨w.heap.size, 2, none⟩ = some (.int .i64 s) := ⟨hE.cell hS.1, hE.cell hS.2.1, hE.cell hS.2.2⟩
    replace X := X.ext hE
    replace E := E.trans hE
    clear hE hHeld
    generalize w' = v0 at X E hS ⊢
    (refine wpAnyE_one (i := 6) (o := ?_) ?_ (by kernel_rfl) (fun K hK => ?_); rotate_left; (focus ((simp only [List.getElem?_toArray, List.getElem?_cons_succ, List.getElem?_cons_zero]; exact rfl))); go_simp; refine (HM.out _).mono ?_; rintro e w' ⟨rfl, hE⟩; go_wp2_with fail; refine hK.out _ _ ?_ (fun hHeld => ?_); rotate_left; clear hK K; (try simp only [Act.put, List.setIfInBounds_toArray, List.set_cons_zero, List.set_cons_succ]))
    rotate_left
    · exact ⟨hE.cell hS.1, hE.cell hS.2.1, hE.cell hS.2.2⟩
    replace hS : w'.cell? ⟨w.heap.size, 0, none⟩ = some (.int .i64 b) ∧ w'.cell? ⟨w.heap.size, 1, none⟩ = some (.int .i64 r) ∧ w'.cell? ⟨w.heap.size, 2, none⟩ = some (.int .i64 s) := ⟨hE.cell hS.1, hE.cell hS.2.1, hE.cell hS.2.2⟩
    replace X := X.ext hE
    replace E := E.trans hE
    clear hE hHeld
    generalize w' = v0 at X E hS ⊢
    obtain ⟨d0, d1, g0, g1⟩ := X
    have z0 := cell_lt d0
    dsimp only at z0
    (refine wpAnyE_free (i := 7) (o := ?_) ?_ (by kernel_rfl) (by kernel_rfl) (fun K hK => ?_); rotate_left; (focus ((simp only [List.getElem?_toArray, List.getElem?_cons_succ, List.getElem?_cons_zero]; exact rfl))); go_simp; refine hK.out _ _ ?_; clear hK K; (try simp only [Act.put, List.setIfInBounds_toArray, List.set_cons_zero, List.set_cons_succ]))
    (refine ePu 8 ?_)
    refine wpAnyE_done (by kernel_rfl) ?_ _
    go_wp2_with fail
    refine bodyPost_ret (v := .tuple #[.agg #[txt t1, txt t2], .int .i64 0]) (by rw [results_cell_tmp1 rfl]; go_simp) rfl ?_
    exact ⟨by rw [HR.out]; rfl, extA⟩
  · rw [if_pos hn] at hR
    have HR := Lib.hid hR
    have hne : (((n : Nat) : Int) != 0) = true := by rw [bne_iff_ne]; omega
    clear hR hok hn
    go_enter Tryz.func27, Tryz.ntmps27
    go_wp2_with fail
    generalize ((w.alloc (.cells #[.int .i64 b, .int .i64 r, .int .i64 s] 46)).alloc (.cells #[.string ⟨#[]⟩, .string ⟨#[]⟩] 35)) = w0 at X E c0 c1 c2 ⊢
    refine (HK.out _).mono ?_
    rintro e w1 ⟨rfl, hE⟩
    obtain ⟨d0, d1, g0, g1⟩ := X.ext hE
    replace E := E.trans hE
    clear hE X c0 c1 c2
    go_wp2
    refine bodyPost_ret (v := .tuple #[.agg #[txt [], txt []], .int .i64 (n : Nat)]) (by rw [results_cell_tmp1 rfl]; go_simp) rfl ?_
    exact ⟨by rw [HR.out]; rfl, extA⟩
end Go.Proofs.YtlnonmmaknhppaaGreatDoor
namespace Go.Proofs.YtlnonmmaknhppaaGreatDoor
open Go.RowKit
set_option maxHeartbeats 4000000 in
set_option maxRecDepth 100000 in
theorem searchB_any (f : Nat → Bool) (n p1 p2 p3 : Nat) (w : World) (hn : n ≤ 2000000) (hf : ∀ i, i < n → ∀ W, Ext w W → Calls Tryz.prog 52 #[.int .i64 i, .pointer (some ⟨p1, 0, none⟩), .pointer (some ⟨p2, 0, none⟩), .pointer (some ⟨p3, 0, none⟩)] W fun e W' => e = .returned (.bool (f i)) ∧ Ext W W') :
    Calls Tryz.prog 51 #[.int .i64 n, .func (.func 52) #[] #[.pointer (some ⟨p1, 0, none⟩), .pointer (some ⟨p2, 0, none⟩), .pointer (some ⟨p3, 0, none⟩)]] w fun e w' => e = .returned (.int .i64 ((halve f 0 n : Nat) : Int)) ∧ Ext w w' := by
  have HF := Lib.hid hf
  clear hf
  obtain ⟨R, hR⟩ : ∃ R, R = halve f 0 n := ⟨_, rfl⟩
  rw [← hR]
  have HR := Lib.hid hR
  clear hR
  go_enter Tryz.func51, Tryz.ntmps51
  go_wp2
  go_loopw [5, 6] (fun x y wr => ∃ i j : Nat, i ≤ j ∧ j ≤ n ∧ x = .int .i64 i ∧ y = .int .i64 j ∧ Hid (R = halve f i j) ∧ Ext w wr) (fun x y _ => (intOf y).toNat - (intOf x).toNat)
  case atStart => exact ⟨0, n, Nat.zero_le _, Nat.le_refl _, rfl, rfl, HR.out, Ext.refl _⟩
  case round =>
    obtain ⟨i, j, hij, hjn, rfl, rfl, hz, he⟩ := hrel
    by_cases hlt : i < j
    · obtain ⟨m, hm⟩ : ∃ m, m = (i + j) / 2 := ⟨_, rfl⟩
      have u2 : ((i : Int) + (j : Int)) / 2 = (m : Int) := by omega
      have hmj : m < j := by omega
      have him : i ≤ m := by omega
      have HC := Lib.hid (HF.out m (by omega))
      obtain ⟨q, hq⟩ : ∃ q, f m = q := ⟨_, rfl⟩
      rw [hq] at HC
      have hq2 := hq
      rw [hm] at hq2
      have HZ : Hid (R = if q = true then halve f i m else halve f (m + 1) j) := by
        show _ = _
        rw [hz.out, hm]
        cases q
        · rw [halve_no hlt hq2]; rfl
        · rw [halve_yes hlt hq2]; rfl
      clear hq hq2 hm hz
      go_wp2_with fail
      refine (HC.out _ he).mono ?_
      rintro e w1 ⟨rfl, hE⟩
      have E1 := he.trans hE
      cases q
      · have h1 : Hid (R = halve f (m + 1) j) := HZ.out
        clear HZ
        go_wp2
        refine ⟨⟨m + 1, j, by omega, hjn, by go_num, rfl, h1.out, E1⟩, by simp [intOf]; omega⟩
      · have h1 : Hid (R = halve f i m) := HZ.out
        clear HZ
        go_wp2
        refine ⟨⟨i, m, him, by omega, rfl, rfl, h1.out, E1⟩, by simp [intOf]; omega⟩
    · have hke : i = j := by omega
      subst hke
      have h1 := hz.out
      rw [halve_end (by omega)] at h1
      have H1 := Lib.hid h1
      go_wp2
      go_ret
      exact ⟨by rw [H1.out]; rfl, he⟩
set_option maxHeartbeats 4000000 in
set_option maxRecDepth 100000 in
theorem searchR_any (f : Nat → Bool) (n p1 p2 p3 : Nat) (w : World) (hn : n ≤ 2000000) (hf : ∀ i, i < n → ∀ W, Ext w W → Calls Tryz.prog 66 #[.int .i64 i, .pointer (some ⟨p1, 0, none⟩), .pointer (some ⟨p2, 0, none⟩), .pointer (some ⟨p3, 0, none⟩)] W fun e W' => e = .returned (.bool (f i)) ∧ Ext W W') :
    Calls Tryz.prog 51 #[.int .i64 n, .func (.func 66) #[] #[.pointer (some ⟨p1, 0, none⟩), .pointer (some ⟨p2, 0, none⟩), .pointer (some ⟨p3, 0, none⟩)]] w fun e w' => e = .returned (.int .i64 ((halve f 0 n : Nat) : Int)) ∧ Ext w w' := by
  have HF := Lib.hid hf
  clear hf
  obtain ⟨R, hR⟩ : ∃ R, R = halve f 0 n := ⟨_, rfl⟩
  rw [← hR]
  have HR := Lib.hid hR
  clear hR
  go_enter Tryz.func51, Tryz.ntmps51
  go_wp2
  go_loopw [5, 6] (fun x y wr => ∃ i j : Nat, i ≤ j ∧ j ≤ n ∧ x = .int .i64 i ∧ y = .int .i64 j ∧ Hid (R = halve f i j) ∧ Ext w wr) (fun x y _ => (intOf y).toNat - (intOf x).toNat)
  case atStart => exact ⟨0, n, Nat.zero_le _, Nat.le_refl _, rfl, rfl, HR.out, Ext.refl _⟩
  case round =>
    obtain ⟨i, j, hij, hjn, rfl, rfl, hz, he⟩ := hrel
    by_cases hlt : i < j
    · obtain ⟨m, hm⟩ : ∃ m, m = (i + j) / 2 := ⟨_, rfl⟩
      have u2 : ((i : Int) + (j : Int)) / 2 = (m : Int) := by omega
      have hmj : m < j := by omega
      have him : i ≤ m := by omega
      have HC := Lib.hid (HF.out m (by omega))
      obtain ⟨q, hq⟩ : ∃ q, f m = q := ⟨_, rfl⟩
      rw [hq] at HC
      have hq2 := hq
      rw [hm] at hq2
      have HZ : Hid (R = if q = true then halve f i m else halve f (m + 1) j) := by
        show _ = _
        rw [hz.out, hm]
        cases q
        · rw [halve_no hlt hq2]; rfl
        · rw [halve_yes hlt hq2]; rfl
      clear hq hq2 hm hz
      go_wp2_with fail
      refine (HC.out _ he).mono ?_
      rintro e w1 ⟨rfl, hE⟩
      have E1 := he.trans hE
      cases q
      · have h1 : Hid (R = halve f (m + 1) j) := HZ.out
        clear HZ
        go_wp2
        refine ⟨⟨m + 1, j, by omega, hjn, by go_num, rfl, h1.out, E1⟩, by simp [intOf]; omega⟩
      · have h1 : Hid (R = halve f i m) := HZ.out
        clear HZ
        go_wp2
        refine ⟨⟨i, m, him, by omega, rfl, rfl, h1.out, E1⟩, by simp [intOf]; omega⟩
    · have hke : i = j := by omega
      subst hke
      have h1 := hz.out
      rw [halve_end (by omega)] at h1
      have H1 := Lib.hid h1
      go_wp2
      go_ret
      exact ⟨by rw [H1.out]; rfl, he⟩
end Go.Proofs.YtlnonmmaknhppaaGreatDoor
namespace Go.Proofs.YtlnonmmaknhppaaGreatDoor
open Go.RowKit
open Go.Lib (decDigits itoa)
set_option maxHeartbeats 4000000 in
set_option maxRecDepth 100000 in
theorem recv1_any (h : Txt) (high low : Int) (v p1 p2 p3 : Nat) (w : World) (hG : Glob w) (hh : fracE h = 0) (hv : v ≤ 1048577) (h1 : 1 ≤ low) (h2 : low < high) (h3 : high ≤ 2000)
    (c1 : w.cell? ⟨p1, 0, none⟩ = some (.int .i64 high)) (c2 : w.cell? ⟨p2, 0, none⟩ = some (.int .i64 low)) (c3 : w.cell? ⟨p3, 1, none⟩ = some (txt h)) :
    Calls Tryz.prog 66 #[.int .i64 v, .pointer (some ⟨p1, 0, none⟩), .pointer (some ⟨p2, 0, none⟩), .pointer (some ⟨p3, 0, none⟩)] w fun e w' => e = .returned (.bool (givesB (fracQ h) (high - low) v)) ∧ Ext w w' := by
  obtain ⟨g1, g2, g3⟩ := gives_ord (v := v) (d := high - low) hv (by omega) (by omega)
  have hb0 : 0 ≤ (v : Int) * (high - low) := Int.mul_nonneg (by omega) (by omega)
  have hb1 : (v : Int) * (high - low) ≤ 1048577 * 2000 := Int.mul_le_mul (by omega) (by omega) (by omega) (by omega)
  have HO := Lib.hid (fun W (g : Ext w W) => of_any ((v : Int) * (high - low)) 101 W (hG.ext g) (by omega) (by omega) (by omega) (by omega))
  rw [g1] at HO
  have HC := Lib.hid (fun W (g : Ext w W) => compareF_any (fracT ((((v : Int) * (high - low) : Int) : Rat) / ((101 : Int) : Rat))) h W (hG.ext g) g2.len (len_right hh))
  have hc : bothE (fracT ((((v : Int) * (high - low) : Int) : Rat) / ((101 : Int) : Rat))) h = 0 := bothE_zero g2.ok hh
  rw [cmp_good hc] at HC
  have hg := g3 h
  unfold ResP at HO
  unfold IntP at HC
  generalize fracT ((((v : Int) * (high - low) : Int) : Rat) / ((101 : Int) : Rat)) = t at HO HC hg
  generalize ordQ t h = q at HC hg
  obtain ⟨R, hR⟩ : ∃ R, R = givesB (fracQ h) (high - low) v := ⟨_, rfl⟩
  rw [← hR] at hg ⊢
  have u1 : IntKind.i64.wrap (high - low) = high - low := IntWalk.i64_in _ (by omega)
  have u2 : IntKind.i64.wrap ((v : Int) * (high - low)) = (v : Int) * (high - low) := IntWalk.i64_in _ (by omega)
  have hRq : Hid (R = decide (0 ≤ q)) := by
    show _ = _
    cases hr : R
    · rw [hr] at hg
      have : ¬ (0 ≤ q) := fun h => by have := hg.1 h; cases this
      rw [decide_eq_false this]
    · rw [hr] at hg
      rw [decide_eq_true (hg.2 rfl)]
  have z1 := cell_lt c1
  have z2 := cell_lt c2
  have z3 := cell_lt c3
  dsimp only at z1 z2 z3
  clear g1 g2 g3 hb0 hb1 hc hg hR hG
  go_enter Tryz.func66, Tryz.ntmps66
  go_wp2_with fail
  refine (HO.out _ (Ext.refl _)).mono ?_
  rintro e w1 ⟨rfl, hE1⟩
  have c3 := hE1.cell c3
  have z3 := cell_lt c3
  dsimp only at z3
  go_wp2_with fail
  refine (HC.out _ hE1).mono ?_
  rintro e w2 ⟨rfl, hE2⟩
  have E := hE1.trans hE2
  have hx := hRq.out
  go_wp2
  go_ret
  exact ⟨ret_bool hx.symm, E⟩
theorem sign_good {a : Txt} (h : fracE a = 0) : signS a = ((fracQ a).num.sign, 0) := by unfold signS ifOk; rw [if_pos h]
theorem sign_neg (q : Rat) : q.num.sign < 0 ↔ q < 0 := by
  rw [Int.sign_neg_iff, ← Int.not_le, ← Rat.not_le, Rat.num_nonneg]
set_option maxHeartbeats 8000000 in
set_option maxRecDepth 100000 in
theorem aReceiver_any (used : Enc) (high low : Int) (w : World) (hG : Glob w) (hl : LenE used) : Calls Tryz.prog 19 #[encV used, .int .i64 high, .int .i64 low] w (IntP (recS used high low) (recE used high low) w) := by
  have HCK := Lib.hid (fun W (g : Ext w W) => eCheck_any used W (hG.ext g) hl)
  have HSG := Lib.hid (fun W (g : Ext w W) => signF_any used.1 W (hG.ext g) hl.1)
  have HPH := Lib.hid (fun W => aPress_any high W)
  have HPL := Lib.hid (fun W => aPress_any low W)
  have HG := Lib.hid hG
  obtain ⟨R, hR⟩ : ∃ R, R = recE used high low := ⟨_, rfl⟩
  obtain ⟨Z, hZ⟩ : ∃ Z, Z = recS used high low := ⟨_, rfl⟩
  unfold IntP
  rw [← hR, ← hZ]
  unfold recS at hZ
  rw [← hR] at hZ
  unfold recE at hR
  have HZ := Lib.hid hZ
  obtain ⟨t, u⟩ := used
  dsimp only at HSG
  dsimp only [encV] at HCK ⊢
  obtain ⟨n, hn⟩ : ∃ n, n = encE (t, u) := ⟨_, rfl⟩
  rw [← hn] at HCK hR
  have A : EncAt w.heap.size (((w.alloc (.cells #[txt t, txt u] 35)).alloc (.cells #[.int .i64 high] 3)).alloc (.cells #[.int .i64 low] 3)) t u := ⟨by go_simp, by go_simp, by go_simp, by go_simp⟩
  have c1 : ((((w.alloc (.cells #[txt t, txt u] 35)).alloc (.cells #[.int .i64 high] 3)).alloc (.cells #[.int .i64 low] 3))).cell? ⟨w.heap.size + 1, 0, none⟩ = some (.int .i64 high) := by go_simp
  have c2 : ((((w.alloc (.cells #[txt t, txt u] 35)).alloc (.cells #[.int .i64 high] 3)).alloc (.cells #[.int .i64 low] 3))).cell? ⟨w.heap.size + 1 + 1, 0, none⟩ = some (.int .i64 low) := by go_simp
  have E : Ext w (((w.alloc (.cells #[txt t, txt u] 35)).alloc (.cells #[.int .i64 high] 3)).alloc (.cells #[.int .i64 low] 3)) := extA
  clear hZ hG
  go_enter Tryz.func19, Tryz.ntmps19
  go_wp2_with fail
  generalize (((w.alloc (.cells #[txt t, txt u] 35)).alloc (.cells #[.int .i64 high] 3)).alloc (.cells #[.int .i64 low] 3)) = w0 at A c1 c2 E ⊢
  refine (HCK.out _ E).mono ?_
  rintro e w1 ⟨rfl, hE⟩
  replace A := A.ext hE
  replace E := E.trans hE
  have c1 := (hE).cell c1
  have c2 := (hE).cell c2
  clear hE HCK
  by_cases h0 : n = 0
  rotate_left
  · rw [if_pos h0] at hR
    have HR := Lib.hid (And.intro hR (HZ.out.trans (if_neg (by omega))))
    have hne : (((n : Nat) : Int) != 0) = true := by rw [bne_iff_ne]; omega
    clear hR h0 hn HZ
    go_wp2
    go_ret2
    exact ⟨by rw [HR.out.1, HR.out.2]; rfl, E⟩
  subst h0
  have hr := enc_right hn.symm
  dsimp only at hr
  have hnn : Hid (encE (t, u) = 0) := hn.symm
  clear hn
  rw [if_neg (not_not_intro rfl)] at hR
  rw [sign_good hr.1] at HSG
  have hsn := sign_neg (fracQ t)
  unfold IntP at HSG
  dsimp only at HSG hR
  generalize (fracQ t).num.sign = sg at HSG hsn
  have a0 := A.c0
  have a1 := A.c1
  have z0 := cell_lt a0
  have z1 := cell_lt c1
  have z2 := cell_lt c2
  dsimp only at z0 z1 z2
  go_wp2_with fail
  refine (HSG.out _ E).mono ?_
  rintro e w2 ⟨rfl, hE⟩
  replace A := A.ext hE
  replace E := E.trans hE
  have c1 := (hE).cell c1
  have c2 := (hE).cell c2
  clear hE HSG a0 a1 z0 z1 z2
  by_cases hsg : sg < 0
  · rw [if_pos (hsn.1 hsg)] at hR
    have HR := Lib.hid (And.intro hR (HZ.out.trans (if_neg (by omega))))
    clear hR hsn HZ
    go_wp2
    go_ret2
    exact ⟨by rw [HR.out.1, HR.out.2]; rfl, E⟩
  rw [if_neg (fun h => hsg (hsn.2 h))] at hR
  have z1 := cell_lt c1
  have z2 := cell_lt c2
  dsimp only at z1 z2
  have hsg2 : (0 : Int) ≤ sg := by omega
  clear hsn
  go_wp2
  have E1 : Ext w2 (w2.alloc (.cells #[.int .i64 high, .int .i64 low] 3)) := extA
  have l0 : ((w2.alloc (.cells #[.int .i64 high, .int .i64 low] 3))).cell? ⟨w2.heap.size, 0, none⟩ = some (.int .i64 high) := by go_simp
  have l1 : ((w2.alloc (.cells #[.int .i64 high, .int .i64 low] 3))).cell? ⟨w2.heap.size, 1, none⟩ = some (.int .i64 low) := by go_simp
  replace A := A.ext E1
  replace E := E.trans E1
  have c1 := (E1).cell c1
  have c2 := (E1).cell c2
  obtain ⟨lb, hlb⟩ : ∃ lb, lb = w2.heap.size := ⟨_, rfl⟩
  rw [← hlb] at l0 l1 ⊢
  clear hlb E1 z1 z2
  generalize (w2.alloc (.cells #[.int .i64 high, .int .i64 low] 3)) = w3 at A c1 c2 l0 l1 E ⊢
  have M0 : Hid (R = if presB high = true then 2 else if presB low = true then 2 else if high ≤ low then 9 else if 1048576 < recN (fracQ u) (high - low) then 11 else 0) := hR
  have hru := Lib.hid hr.2.1
  clear hR hr
  have PH : Hid (∀ k : Nat, k < 2 → ∃ z, w3.cell? ⟨lb, k, none⟩ = some (.int .i64 z) ∧ (k = 0 → z = high) ∧ (k = 1 → z = low)) := fun k hk => by
    have : k = 0 ∨ k = 1 := by omega
    rcases this with rfl | rfl
    · exact ⟨high, l0, fun _ => rfl, fun h => (by cases h)⟩
    · exact ⟨low, l1, fun h => (by cases h), fun _ => rfl⟩
  clear l0 l1
  go_loopw [32] (fun x wr => ∃ k : Nat, k ≤ 2 ∧ x = .int .i64 k ∧ Hid ((1 ≤ k → presB high = false) ∧ (2 ≤ k → presB low = false)) ∧ Ext w3 wr) (fun x _ => 2 - (intOf x).toNat)
  case atStart => exact ⟨0, Nat.zero_le _, rfl, ⟨fun h => (by omega), fun h => (by omega)⟩, Ext.refl _⟩
  case round =>
    obtain ⟨k, hk, rfl, hz, he⟩ := hrel
    by_cases hlt : k < 2
    · obtain ⟨z, q0, q1, q2⟩ := PH.out k hlt
      have q0 := he.cell q0
      have zl := cell_lt q0
      dsimp only at zl
      have HPZ : Hid (∀ W, Calls Tryz.prog 49 #[.int .i64 z] W fun e w' => e = .returned (.int .i64 (presE1 z : Nat)) ∧ w' = W) := fun W => aPress_any z W
      obtain ⟨pz, hpz⟩ : ∃ pz, pz = presB z := ⟨_, rfl⟩
      have hpe : presE1 z = if pz = true then 2 else 0 := by unfold presE1; rw [hpz]
      rw [hpe] at HPZ
      have HK0 := Lib.hid (And.intro q1 (And.intro q2 hpz))
      clear q1 q2 hpz hpe
      cases pz
      · have HN : Hid ((1 ≤ k + 1 → presB high = false) ∧ (2 ≤ k + 1 → presB low = false)) := by
          obtain ⟨k1, k2, k3⟩ := HK0.out
          have : k = 0 ∨ k = 1 := by omega
          rcases this with rfl | rfl
          · have := k1 rfl
            subst this
            exact ⟨fun _ => k3.symm, fun h => (by omega)⟩
          · have := k2 rfl
            subst this
            exact ⟨fun _ => hz.out.1 (by omega), fun _ => k3.symm⟩
        clear HK0 hz
        go_wp2_with fail
        refine (HPZ.out _).mono ?_
        rintro e w5 ⟨rfl, rfl⟩
        go_wp2
        refine ⟨⟨k + 1, by omega, by go_num, HN.out, he⟩, by simp [intOf]; omega⟩
      · have HN : Hid (R = 2 ∧ Z = 0) := by
          obtain ⟨k1, k2, k3⟩ := HK0.out
          have hR2 : R = 2 := by
            have : k = 0 ∨ k = 1 := by omega
            rw [M0.out]
            rcases this with rfl | rfl
            · have := k1 rfl
              subst this
              rw [if_pos k3.symm]
            · have := k2 rfl
              subst this
              rw [hz.out.1 (by omega), if_neg (by simp), if_pos k3.symm]
          exact ⟨hR2, by rw [HZ.out, if_neg (by omega)]⟩
        clear HK0 hz
        go_wp2_with fail
        refine (HPZ.out _).mono ?_
        rintro e w5 ⟨rfl, rfl⟩
        go_wp2
        go_ret2
        exact ⟨by rw [HN.out.1, HN.out.2]; rfl, E.trans he⟩
    · have hke : k = 2 := by omega
      subst hke
      have hz1 := hz.out.1 (by omega)
      have hz2 := hz.out.2 (by omega)
      have m1 := M0.out
      rw [hz1, hz2, if_neg (by simp), if_neg (by simp)] at m1
      replace A := A.ext he
      have EE := E.trans he
      have c1 := he.cell c1
      have c2 := he.cell c2
      unfold presB at hz1 hz2
      simp only [Bool.or_eq_false_iff, decide_eq_false_iff_not] at hz1 hz2
      by_cases hlh : high ≤ low
      · rw [if_pos hlh] at m1
        have HN := Lib.hid (And.intro m1 (HZ.out.trans (if_neg (by omega))))
        clear m1 hz hz1 hz2
        go_wp2
        go_ret2
        exact ⟨by rw [HN.out.1, HN.out.2]; rfl, EE⟩
      · rw [if_neg hlh] at m1
        have hlh2 : ¬ (high ≤ low) := hlh
        have HS := Lib.hid (searchR_any (givesB (fracQ u) (high - low)) 1048577 (w.heap.size + 1) (w.heap.size + 1 + 1) w.heap.size wr (by omega) (fun i hi W hW => recv1_any u high low i _ _ _ W (HG.out.ext (EE.trans hW)) hru.out (by omega) (by omega) (by omega) (by omega) (hW.cell c1) (hW.cell c2) (hW.cell A.c1)))
        have hrn : halve (givesB (fracQ u) (high - low)) 0 1048577 = recN (fracQ u) (high - low) := rfl
        rw [hrn] at HS
        have hle := (rec_is (x := fracQ u) (d := high - low) (by omega)).1
        have hz3 := HZ.out
        generalize recN (fracQ u) (high - low) = N at HS m1 hle hz3
        have HM := Lib.hid (And.intro m1 hz3)
        clear m1 hz hz1 hz2 hz3 HZ M0 hrn
        go_wp2_with fail
        refine HS.out.mono ?_
        rintro e w5 ⟨rfl, hE5⟩
        by_cases hN : 1048576 < N
        · have h8 := HM.out.1
          rw [if_pos hN] at h8
          have HN := Lib.hid (And.intro h8 (HM.out.2.trans (if_neg (by omega))))
          clear h8 HM
          go_wp2
          go_ret2
          exact ⟨by rw [HN.out.1, HN.out.2]; rfl, EE.trans hE5⟩
        · have h8 := HM.out.1
          rw [if_neg hN] at h8
          have HN := Lib.hid (And.intro h8 (HM.out.2.trans (if_pos h8)))
          clear h8 HM
          go_wp2
          go_ret2
          exact ⟨by rw [HN.out.1, HN.out.2]; rfl, EE.trans hE5⟩
end Go.Proofs.YtlnonmmaknhppaaGreatDoor
namespace Go.Proofs.YtlnonmmaknhppaaGreatDoor
open Go.RowKit
def CellsI (w : World) (a : Option Addr) (l : List Int) : Prop := ∀ i, i < l.length → ∃ b off, a = some ⟨b, off, none⟩ ∧ w.cell? ⟨b, off + i, none⟩ = some (.int .i64 (l.getD i 0))
theorem CellsI.ext {w w' : World} {a : Option Addr} {l : List Int} (h : CellsI w a l) (he : Ext w w') : CellsI w' a l := fun i hi => by
  obtain ⟨b, off, h1, h2⟩ := h i hi
  exact ⟨b, off, h1, he.cell h2⟩
theorem CellsI.nil (w : World) (a : Option Addr) : CellsI w a [] := fun i hi => by simp at hi
def vals (l : List Int) : List Value := l.map (Value.int .i64)
def OwnsI (w : World) (v : Value) (l : List Int) : Prop := w.ownsRow 0 3 1 v l.length (vals l)
theorem OwnsI.nil (w : World) : OwnsI w (.slice none 0 0) [] := World.ownsRow_nil w 0 _ _
theorem OwnsI.ext {A B : World} {v : Value} {N : List Int} (ho : OwnsI A v N) (h : Ext A B) : OwnsI B v N := rowExt ho h
theorem OwnsI.lt {A : World} {v : Value} {N : List Int} (ho : OwnsI A v N) {b : Nat} (hb : v.ownBlock = some b) : b < A.heap.size := (World.ownsRow.lt ho b hb).2
theorem OwnsI.reads {A : World} {v : Value} {N : List Int} (ho : OwnsI A v N) : ∃ a cap, v = .slice a N.length cap ∧ CellsI A a N ∧ (N = [] ∨ ∃ b, a = some ⟨b, 0, none⟩ ∧ v.ownBlock = some b ∧ ∀ i, i < N.length → A.cell? ⟨b, i, none⟩ = some (.int .i64 (N.getD i 0)) ∧ A.frozen? ⟨b, i, none⟩ = false) := by
  rcases ho.2 with ⟨hv, hn⟩ | ⟨g, cap, cur, hv, hg, hh, hnc, hm, hcs, ht⟩
  · have : N = [] := List.eq_nil_of_length_eq_zero hn
    subst this
    exact ⟨none, 0, hv, CellsI.nil _ _, .inl rfl⟩
  · have key : ∀ i, i < N.length → A.cell? ⟨g, i, none⟩ = some (.int .i64 (N.getD i 0)) := fun i hi => by
      have hc := World.ownsRow.cells ho (g := g) (by rw [hv]; rfl)
      have := hc i (.int .i64 (N.getD i 0)) (by simp [vals, List.getD, hi])
      rwa [Addr.add_lit, Nat.zero_add] at this
    refine ⟨some ⟨g, 0, none⟩, cap, hv, fun i hi => ⟨g, 0, rfl, by rw [Nat.zero_add]; exact key i hi⟩, .inr ⟨g, rfl, by rw [hv]; rfl, fun i hi => ⟨key i hi, ?_⟩⟩⟩
    have ho' : A.ownsRow 0 3 1 (.slice (some ⟨g, 0, none⟩) N.length cap) N.length (vals N) := by have h9 := ho; unfold OwnsI at h9; rw [hv] at h9; exact h9
    exact ho'.frozenAt i
theorem OwnsI.isCells {A : World} {v : Value} {N : List Int} (h : OwnsI A v N) {b : Nat} (hb : v.ownBlock = some b) {o : Obj} (ho : A.heap[b]? = some o) : o.isCells = true := by
  rcases h.2 with ⟨hv, _⟩ | ⟨g, cap, cur, hv, _, hh, _⟩
  · rw [hv] at hb; cases hb
  · rw [hv] at hb; cases hb
    rw [hh] at ho; cases ho; rfl
end Go.Proofs.YtlnonmmaknhppaaGreatDoor
namespace Go.Proofs.YtlnonmmaknhppaaGreatDoor
open Go.RowKit
open Go.Lib (decDigits itoa)
theorem bore_force {b p : Int} (h1 : 1 ≤ b) (h2 : b ≤ 500) (h3 : 1 ≤ p) (h4 : p ≤ 2000) : timesE piE [(faceN ⟨b, 0, 0⟩ true, 4), (p, 1000)] = (forceT ⟨b, 0, 1⟩ true p, 0) ∧ GoodE 13 (forceT ⟨b, 0, 1⟩ true p) (pushL b p) (byQ (faceH ⟨b, 0, 1⟩ true) p 1000) := by
  have hk : CylOk ⟨b, 0, 1⟩ := ⟨h1, h2, by dsimp only; omega, by dsimp only; omega, by dsimp only; omega, by dsimp only; omega⟩
  exact ⟨force_times hk true h3 h4, force_good hk true h3 h4⟩
set_option maxHeartbeats 16000000 in
set_option maxRecDepth 100000 in
theorem bore1_any (l : List Int) (a : Option Addr) (cap i p1 p2 p3 : Nat) (p : Int) (nd : Txt) (w : World) (hG : Glob w) (hi : i < l.length) (_ : l.length ≤ 1000) (hb : 1 ≤ l.getD i 0 ∧ l.getD i 0 ≤ 500) (hp1 : 1 ≤ p) (hp2 : p ≤ 2000) (hn : fracE nd = 0) (hc : CellsI w a l)
    (c1 : w.cell? ⟨p1, 0, none⟩ = some (.slice a l.length cap)) (c2 : w.cell? ⟨p2, 0, none⟩ = some (.int .i64 p)) (c3 : w.cell? ⟨p3, 0, none⟩ = some (txt nd)) :
    Calls Tryz.prog 52 #[.int .i64 i, .pointer (some ⟨p1, 0, none⟩), .pointer (some ⟨p2, 0, none⟩), .pointer (some ⟨p3, 0, none⟩)] w fun e w' => e = .returned (.bool (enoughB (fracQ nd) p (l.getD i 0))) ∧ Ext w w' := by
  obtain ⟨cb, co, rfl, c4⟩ := hc i hi
  generalize l.getD i 0 = b at hb c4 ⊢
  obtain ⟨g1, g2⟩ := bore_force hb.1 hb.2 hp1 hp2
  have HF := Lib.hid (fun W qa qc (g : Ext w W) hq => face_any ⟨b, 0, 0⟩ true [(p, 1000)] qa qc W (hG.ext g) ⟨hb.1, hb.2, by dsimp only; omega, by dsimp only; omega⟩ hq (fun x hx => by simp at hx; subst hx; exact qok_small (by omega) (by omega) (by decide) (by decide)) (by simp))
  rw [g1] at HF
  have HC := Lib.hid (fun W (g : Ext w W) => compareF_any (forceT ⟨b, 0, 1⟩ true p).1 nd W (hG.ext g) g2.lo.len (len_right hn))
  rw [cmp_good (bothE_zero g2.lo.ok hn)] at HC
  have hord : 0 ≤ ordQ (forceT ⟨b, 0, 1⟩ true p).1 nd ↔ enoughB (fracQ nd) p b = true := by
    rw [ord_ge, g2.lo.val]
    unfold enoughB
    rw [decide_eq_true_eq]
  unfold EncP at HF
  unfold IntP at HC
  generalize forceT ⟨b, 0, 1⟩ true p = tt at HF HC hord
  obtain ⟨t1, t2⟩ := tt
  dsimp only [encV, cylV] at HF HC hord
  generalize ordQ t1 nd = q at HC hord
  obtain ⟨R, hR⟩ : ∃ R, R = enoughB (fracQ nd) p b := ⟨_, rfl⟩
  rw [← hR] at hord ⊢
  have hRq : Hid (R = decide (0 ≤ q)) := by
    show _ = _
    cases hr : R
    · rw [hr] at hord
      have : ¬ (0 ≤ q) := fun h => by have := hord.1 h; cases this
      rw [decide_eq_false this]
    · rw [hr] at hord
      rw [decide_eq_true (hord.2 rfl)]
  clear hord hR g1 g2 hb hp1 hp2 hn hG hc
  have hlt : (i : Int) < (l.length : Int) := by omega
  go_enter Tryz.func52, Tryz.ntmps52
  go_wp2
  go_cut [6, 7] (fun x y wx => ∃ b2, x = .pointer (some ⟨b2, 0, none⟩) ∧ y = .int .i64 0 ∧ Hid (EncAt b2 wx t1 t2) ∧ Ext w wx)
  case first =>
    refine wp_region_heldE 13 (fun w' => w'.cell? ⟨p1, 0, none⟩ = some (.slice (some ⟨cb, co, none⟩) l.length cap) ∧ w'.cell? ⟨p2, 0, none⟩ = some (.int .i64 p) ∧ w'.cell? ⟨cb, co + i, none⟩ = some (.int .i64 b)) (by kernel_rfl) ?_
    have ED : Ext w w.drew := extA
    have hS : w.drew.cell? ⟨p1, 0, none⟩ = some (.slice (some ⟨cb, co, none⟩) l.length cap) ∧ w.drew.cell? ⟨p2, 0, none⟩ = some (.int .i64 p) ∧ w.drew.cell? ⟨cb, co + i, none⟩ = some (.int .i64 b) := ⟨ED.cell c1, ED.cell c2, ED.cell c4⟩
    clear c1 c2 c3 c4
    generalize w.drew = W2 at ED hS ⊢
    have E := ED
    clear ED
    (refine eTk 0 ?_)
    (refine ePu 1 ?_)
    ((refine eTk 2 ?_); (refine eTk 3 ?_); (refine eTk 5 ?_))
    ((refine ePu 4 ?_); (refine ePu 6 ?_))
    refine wpAnyE_two (i := 7) (j := 12) (o := ?_) (p := ?_) ?_ ?_ (by kernel_rfl) (fun K hK => ?_) (fun K hK => ?_)
    rotate_left 2
    · simp only [List.getElem?_toArray, List.getElem?_cons_succ, List.getElem?_cons_zero]; exact rfl
    · simp only [List.getElem?_toArray, List.getElem?_cons_succ, List.getElem?_cons_zero]; exact rfl
    · have EQ : Ext W2 (W2.alloc (.cells #[.int .i64 p, .int .i64 1000] 90)) := extA
      have CQ := Lib.hid (cellsQt_one W2 (p, 1000) 90)
      have hS7 : (W2.alloc (.cells #[.int .i64 p, .int .i64 1000] 90)).cell? ⟨p1, 0, none⟩ = some (.slice (some ⟨cb, co, none⟩) l.length cap) ∧ (W2.alloc (.cells #[.int .i64 p, .int .i64 1000] 90)).cell? ⟨p2, 0, none⟩ = some (.int .i64 p) ∧ (W2.alloc (.cells #[.int .i64 p, .int .i64 1000] 90)).cell? ⟨cb, co + i, none⟩ = some (.int .i64 b) := ⟨EQ.cell hS.1, EQ.cell hS.2.1, EQ.cell hS.2.2⟩
      obtain ⟨qb, hqb⟩ : ∃ q, q = W2.heap.size := ⟨_, rfl⟩
      go_simp
      refine hK.out _ _ hS7 (fun hHeld => ?_)
      clear hK K hHeld
      (try simp only [Act.put, List.setIfInBounds_toArray, List.set_cons_zero, List.set_cons_succ])
      rw [← hqb] at CQ ⊢
      clear hqb hS
      replace E := E.trans EQ
      clear EQ
      have hS := hS7
      clear hS7
      generalize (W2.alloc (.cells #[.int .i64 p, .int .i64 1000] 90)) = W2 at E CQ hS ⊢
      refine wpAnyE_two (i := 8) (j := 12) (o := ?_) (p := ?_) ?_ ?_ (by kernel_rfl) (fun K hK => ?_) (fun K hK => ?_)
      rotate_left 2
      · simp only [List.getElem?_toArray, List.getElem?_cons_succ, List.getElem?_cons_zero]; exact rfl
      · simp only [List.getElem?_toArray, List.getElem?_cons_succ, List.getElem?_cons_zero]; exact rfl
      · go_simp
        refine (HF.out _ _ 1 E CQ.out).mono ?_
        rintro e w8 ⟨rfl, hE⟩
        go_wp2_with fail
        refine hK.out _ _ ⟨hE.cell hS.1, hE.cell hS.2.1, hE.cell hS.2.2⟩ (fun hHeld => ?_)
        clear hK K hHeld
        (try simp only [Act.put, List.setIfInBounds_toArray, List.set_cons_zero, List.set_cons_succ])
        replace E := E.trans hE
        replace hS : w8.cell? ⟨p1, 0, none⟩ = some (.slice (some ⟨cb, co, none⟩) l.length cap) ∧ w8.cell? ⟨p2, 0, none⟩ = some (.int .i64 p) ∧ w8.cell? ⟨cb, co + i, none⟩ = some (.int .i64 b) := ⟨hE.cell hS.1, hE.cell hS.2.1, hE.cell hS.2.2⟩
        clear hE
        generalize w8 = W2 at E hS ⊢
        ((refine ePu 9 ?_); (refine ePu 10 ?_); (refine ePu 11 ?_))
        have EA : Ext W2 (W2.alloc (.cells #[.string ⟨#[]⟩, .string ⟨#[]⟩] 35)) := extA
        have X : EncAt W2.heap.size (W2.alloc (.cells #[.string ⟨#[]⟩, .string ⟨#[]⟩] 35)) [] [] := ⟨by go_simp, by go_simp, by go_simp, by go_simp⟩
        have hS12 : (W2.alloc (.cells #[.string ⟨#[]⟩, .string ⟨#[]⟩] 35)).cell? ⟨p1, 0, none⟩ = some (.slice (some ⟨cb, co, none⟩) l.length cap) ∧ (W2.alloc (.cells #[.string ⟨#[]⟩, .string ⟨#[]⟩] 35)).cell? ⟨p2, 0, none⟩ = some (.int .i64 p) ∧ (W2.alloc (.cells #[.string ⟨#[]⟩, .string ⟨#[]⟩] 35)).cell? ⟨cb, co + i, none⟩ = some (.int .i64 b) := ⟨EA.cell hS.1, EA.cell hS.2.1, EA.cell hS.2.2⟩
        obtain ⟨xb, hxb⟩ : ∃ q, q = W2.heap.size := ⟨_, rfl⟩
        have hxg : w.heap.size ≤ xb := by rw [hxb]; exact E.size
        (refine wpAnyE_one (i := 12) (o := ?_) ?_ (by kernel_rfl) (fun K hK => ?_); rotate_left; (focus ((simp only [List.getElem?_toArray, List.getElem?_cons_succ, List.getElem?_cons_zero]; exact rfl))); go_simp; refine hK.out _ _ ?_ (fun hHeld => ?_); rotate_left; clear hK K; (try simp only [Act.put, List.setIfInBounds_toArray, List.set_cons_zero, List.set_cons_succ]))
        rotate_left
        · exact hS12
        clear hHeld
        rw [← hxb] at X ⊢
        clear hxb hS
        replace E := E.trans EA
        clear EA
        have hS := hS12
        clear hS12
        generalize (W2.alloc (.cells #[.string ⟨#[]⟩, .string ⟨#[]⟩] 35)) = W2 at E X hS ⊢
        obtain ⟨x0, x1, x2, x3⟩ := X
        have z0 := cell_lt x0
        dsimp only at z0
        (refine wpAnyE_free (i := 13) (o := ?_) ?_ (by kernel_rfl) (by kernel_rfl) (fun K hK => ?_); rotate_left; (focus ((simp only [List.getElem?_toArray, List.getElem?_cons_succ, List.getElem?_cons_zero]; exact rfl))); go_simp; refine hK.out _ _ ?_; clear hK K; (try simp only [Act.put, List.setIfInBounds_toArray, List.set_cons_zero, List.set_cons_succ]))
        (refine ePu 14 ?_)
        refine wpAnyE_done (by kernel_rfl) ?_ _
        go_wp2_with fail
        go_meet
        have XF : EncAt xb ((W2.setCell ⟨xb, 0, none⟩ (txt t1)).setCell ⟨xb, 1, none⟩ (txt t2)) t1 t2 := ((EncAt.mk x0 x1 x2 x3).set0 t1).set1 t2
        exact ⟨xb, rfl, rfl, XF, (E.set (b := xb) (o := 0) hxg (txt t1)).set (b := xb) (o := 1) hxg (txt t2)⟩
      · have EA : Ext W2 (W2.alloc (.cells #[.string ⟨#[]⟩, .string ⟨#[]⟩] 35)) := extA
        have X : EncAt W2.heap.size (W2.alloc (.cells #[.string ⟨#[]⟩, .string ⟨#[]⟩] 35)) [] [] := ⟨by go_simp, by go_simp, by go_simp, by go_simp⟩
        have hS12 : (W2.alloc (.cells #[.string ⟨#[]⟩, .string ⟨#[]⟩] 35)).cell? ⟨p1, 0, none⟩ = some (.slice (some ⟨cb, co, none⟩) l.length cap) ∧ (W2.alloc (.cells #[.string ⟨#[]⟩, .string ⟨#[]⟩] 35)).cell? ⟨p2, 0, none⟩ = some (.int .i64 p) ∧ (W2.alloc (.cells #[.string ⟨#[]⟩, .string ⟨#[]⟩] 35)).cell? ⟨cb, co + i, none⟩ = some (.int .i64 b) := ⟨EA.cell hS.1, EA.cell hS.2.1, EA.cell hS.2.2⟩
        obtain ⟨xb, hxb⟩ : ∃ q, q = W2.heap.size := ⟨_, rfl⟩
        have hxg : w.heap.size ≤ xb := by rw [hxb]; exact E.size
        go_simp
        refine hK.out _ _ hS12 (fun hHeld => ?_)
        clear hK K hHeld
        (try simp only [Act.put, List.setIfInBounds_toArray, List.set_cons_zero, List.set_cons_succ])
        rw [← hxb] at X ⊢
        clear hxb hS
        replace E := E.trans EA
        replace CQ := Lib.hid (CQ.out.ext EA)
        clear EA
        have hS := hS12
        clear hS12
        generalize (W2.alloc (.cells #[.string ⟨#[]⟩, .string ⟨#[]⟩] 35)) = W2 at E X CQ hS ⊢
        (refine wpAnyE_one (i := 8) (o := ?_) ?_ (by kernel_rfl) (fun K hK => ?_); rotate_left; (focus ((simp only [List.getElem?_toArray, List.getElem?_cons_succ, List.getElem?_cons_zero]; exact rfl))); go_simp; refine (HF.out _ _ 1 E CQ.out).mono ?_; rintro e w8 ⟨rfl, hE⟩; go_wp2_with fail; refine hK.out _ _ ?_ (fun hHeld => ?_); rotate_left; clear hK K; (try simp only [Act.put, List.setIfInBounds_toArray, List.set_cons_zero, List.set_cons_succ]))
        rotate_left
        · exact ⟨hE.cell hS.1, hE.cell hS.2.1, hE.cell hS.2.2⟩
        clear hHeld
        replace E := E.trans hE
        replace hS : w8.cell? ⟨p1, 0, none⟩ = some (.slice (some ⟨cb, co, none⟩) l.length cap) ∧ w8.cell? ⟨p2, 0, none⟩ = some (.int .i64 p) ∧ w8.cell? ⟨cb, co + i, none⟩ = some (.int .i64 b) := ⟨hE.cell hS.1, hE.cell hS.2.1, hE.cell hS.2.2⟩
        replace X := X.ext hE
        clear hE
        generalize w8 = W2 at E hS X ⊢
        ((refine ePu 9 ?_); (refine ePu 10 ?_); (refine ePu 11 ?_))
        obtain ⟨x0, x1, x2, x3⟩ := X
        have z0 := cell_lt x0
        dsimp only at z0
        (refine wpAnyE_free (i := 13) (o := ?_) ?_ (by kernel_rfl) (by kernel_rfl) (fun K hK => ?_); rotate_left; (focus ((simp only [List.getElem?_toArray, List.getElem?_cons_succ, List.getElem?_cons_zero]; exact rfl))); go_simp; refine hK.out _ _ ?_; clear hK K; (try simp only [Act.put, List.setIfInBounds_toArray, List.set_cons_zero, List.set_cons_succ]))
        (refine ePu 14 ?_)
        refine wpAnyE_done (by kernel_rfl) ?_ _
        go_wp2_with fail
        go_meet
        have XF : EncAt xb ((W2.setCell ⟨xb, 0, none⟩ (txt t1)).setCell ⟨xb, 1, none⟩ (txt t2)) t1 t2 := ((EncAt.mk x0 x1 x2 x3).set0 t1).set1 t2
        exact ⟨xb, rfl, rfl, XF, (E.set (b := xb) (o := 0) hxg (txt t1)).set (b := xb) (o := 1) hxg (txt t2)⟩
    · have EA : Ext W2 (W2.alloc (.cells #[.string ⟨#[]⟩, .string ⟨#[]⟩] 35)) := extA
      have X : EncAt W2.heap.size (W2.alloc (.cells #[.string ⟨#[]⟩, .string ⟨#[]⟩] 35)) [] [] := ⟨by go_simp, by go_simp, by go_simp, by go_simp⟩
      have hS12 : (W2.alloc (.cells #[.string ⟨#[]⟩, .string ⟨#[]⟩] 35)).cell? ⟨p1, 0, none⟩ = some (.slice (some ⟨cb, co, none⟩) l.length cap) ∧ (W2.alloc (.cells #[.string ⟨#[]⟩, .string ⟨#[]⟩] 35)).cell? ⟨p2, 0, none⟩ = some (.int .i64 p) ∧ (W2.alloc (.cells #[.string ⟨#[]⟩, .string ⟨#[]⟩] 35)).cell? ⟨cb, co + i, none⟩ = some (.int .i64 b) := ⟨EA.cell hS.1, EA.cell hS.2.1, EA.cell hS.2.2⟩
      obtain ⟨xb, hxb⟩ : ∃ q, q = W2.heap.size := ⟨_, rfl⟩
      have hxg : w.heap.size ≤ xb := by rw [hxb]; exact E.size
      go_simp
      refine hK.out _ _ hS12 (fun hHeld => ?_)
      clear hK K hHeld
      (try simp only [Act.put, List.setIfInBounds_toArray, List.set_cons_zero, List.set_cons_succ])
      rw [← hxb] at X ⊢
      clear hxb hS
      replace E := E.trans EA
      clear EA
      have hS := hS12
      clear hS12
      generalize (W2.alloc (.cells #[.string ⟨#[]⟩, .string ⟨#[]⟩] 35)) = W2 at E X hS ⊢
      have EQ : Ext W2 (W2.alloc (.cells #[.int .i64 p, .int .i64 1000] 90)) := extA
      have CQ := Lib.hid (cellsQt_one W2 (p, 1000) 90)
      have hS7 : (W2.alloc (.cells #[.int .i64 p, .int .i64 1000] 90)).cell? ⟨p1, 0, none⟩ = some (.slice (some ⟨cb, co, none⟩) l.length cap) ∧ (W2.alloc (.cells #[.int .i64 p, .int .i64 1000] 90)).cell? ⟨p2, 0, none⟩ = some (.int .i64 p) ∧ (W2.alloc (.cells #[.int .i64 p, .int .i64 1000] 90)).cell? ⟨cb, co + i, none⟩ = some (.int .i64 b) := ⟨EQ.cell hS.1, EQ.cell hS.2.1, EQ.cell hS.2.2⟩
      obtain ⟨qb, hqb⟩ : ∃ q, q = W2.heap.size := ⟨_, rfl⟩
      (refine wpAnyE_one (i := 7) (o := ?_) ?_ (by kernel_rfl) (fun K hK => ?_); rotate_left; (focus ((simp only [List.getElem?_toArray, List.getElem?_cons_succ, List.getElem?_cons_zero]; exact rfl))); go_simp; refine hK.out _ _ ?_ (fun hHeld => ?_); rotate_left; clear hK K; (try simp only [Act.put, List.setIfInBounds_toArray, List.set_cons_zero, List.set_cons_succ]))
      rotate_left
      · exact hS7
      clear hHeld
      rw [← hqb] at CQ ⊢
      clear hqb hS
      replace X := X.ext EQ
      replace E := E.trans EQ
      clear EQ
      have hS := hS7
      clear hS7
      generalize (W2.alloc (.cells #[.int .i64 p, .int .i64 1000] 90)) = W2 at E X CQ hS ⊢
      (refine wpAnyE_one (i := 8) (o := ?_) ?_ (by kernel_rfl) (fun K hK => ?_); rotate_left; (focus ((simp only [List.getElem?_toArray, List.getElem?_cons_succ, List.getElem?_cons_zero]; exact rfl))); go_simp; refine (HF.out _ _ 1 E CQ.out).mono ?_; rintro e w8 ⟨rfl, hE⟩; go_wp2_with fail; refine hK.out _ _ ?_ (fun hHeld => ?_); rotate_left; clear hK K; (try simp only [Act.put, List.setIfInBounds_toArray, List.set_cons_zero, List.set_cons_succ]))
      rotate_left
      · exact ⟨hE.cell hS.1, hE.cell hS.2.1, hE.cell hS.2.2⟩
      clear hHeld
      replace E := E.trans hE
      replace hS : w8.cell? ⟨p1, 0, none⟩ = some (.slice (some ⟨cb, co, none⟩) l.length cap) ∧ w8.cell? ⟨p2, 0, none⟩ = some (.int .i64 p) ∧ w8.cell? ⟨cb, co + i, none⟩ = some (.int .i64 b) := ⟨hE.cell hS.1, hE.cell hS.2.1, hE.cell hS.2.2⟩
      replace X := X.ext hE
      clear hE
      generalize w8 = W2 at E hS X ⊢
      ((refine ePu 9 ?_); (refine ePu 10 ?_); (refine ePu 11 ?_))
      obtain ⟨x0, x1, x2, x3⟩ := X
      have z0 := cell_lt x0
      dsimp only at z0
      (refine wpAnyE_free (i := 13) (o := ?_) ?_ (by kernel_rfl) (by kernel_rfl) (fun K hK => ?_); rotate_left; (focus ((simp only [List.getElem?_toArray, List.getElem?_cons_succ, List.getElem?_cons_zero]; exact rfl))); go_simp; refine hK.out _ _ ?_; clear hK K; (try simp only [Act.put, List.setIfInBounds_toArray, List.set_cons_zero, List.set_cons_succ]))
      (refine ePu 14 ?_)
      refine wpAnyE_done (by kernel_rfl) ?_ _
      go_wp2_with fail
      go_meet
      have XF : EncAt xb ((W2.setCell ⟨xb, 0, none⟩ (txt t1)).setCell ⟨xb, 1, none⟩ (txt t2)) t1 t2 := ((EncAt.mk x0 x1 x2 x3).set0 t1).set1 t2
      exact ⟨xb, rfl, rfl, XF, (E.set (b := xb) (o := 0) hxg (txt t1)).set (b := xb) (o := 1) hxg (txt t2)⟩
  case rest =>
    obtain ⟨b2, rfl, rfl, HB2, hE⟩ := hcut
    have c3 := hE.cell c3
    have z3 := cell_lt c3
    obtain ⟨x0, x1, x2, x3⟩ := HB2.out
    have z0 := cell_lt x0
    dsimp only at z0 z3
    go_wp2_with fail
    refine (HC.out _ hE).mono ?_
    rintro e w2 ⟨rfl, hE2⟩
    have E := hE.trans hE2
    have hx := hRq.out
    go_wp2
    go_ret
    exact ⟨ret_bool hx.symm, E⟩
end Go.Proofs.YtlnonmmaknhppaaGreatDoor
namespace Go.Proofs.YtlnonmmaknhppaaGreatDoor
open Go.RowKit
open Go.Lib (decDigits itoa)
set_option maxHeartbeats 4000000 in
set_option maxRecDepth 100000 in
theorem partsF_any (a : Txt) (w : World) (hG : Glob w) (ha : a.length ≤ 400) : Calls Tryz.prog 94 #[txt a] w (ParP (partsR a) w) := by
  have HC := Lib.hid (check_any a w hG ha)
  have HCut := Lib.hid (fun W (hW : Ext w W) => Cut_any a W (hG.ext hW) (by omega))
  clear hG
  unfold ParP
  by_cases ea : fracE a = 0
  · rw [parts_ok ea]
    rw [ea] at HC
    clear ea
    have hne0 : (((0 : Nat) : Int) != 0) = false := rfl
    by_cases hs : 47 ∈ a
    · rw [if_pos hs, decide_eq_true hs] at HCut
      clear hs
      generalize topS a = n at *
      generalize lowS a = d at *
      go_enter Tryz.func94, Tryz.ntmps94
      go_wp2_with (first
        | (go_at_call 137; with_reducible refine HC.out.mono ?_; rintro e w1 ⟨rfl, hE⟩)
        | (go_at_call 113; with_reducible refine (HCut.out _ hE).mono ?_; rintro e w2 ⟨rfl, hE2⟩))
      go_ret3
      exact ⟨rfl, hE.trans hE2⟩
    · rw [if_neg hs, decide_eq_false hs] at HCut
      rw [(split_none hs).2]
      clear hs
      generalize topS a = n at *
      go_enter Tryz.func94, Tryz.ntmps94
      go_wp2_with (first
        | (go_at_call 137; with_reducible refine HC.out.mono ?_; rintro e w1 ⟨rfl, hE⟩)
        | (go_at_call 113; with_reducible refine (HCut.out _ hE).mono ?_; rintro e w2 ⟨rfl, hE2⟩))
      go_ret3
      exact ⟨rfl, hE.trans hE2⟩
  · rw [parts_bad ea]
    have hne : (((fracE a : Nat) : Int) != 0) = true := by rw [bne_iff_ne]; omega
    clear ea HCut
    generalize fracE a = n at *
    go_enter Tryz.func94, Tryz.ntmps94
    go_wp2_with (go_at_call 137; with_reducible refine HC.out.mono ?_; rintro e w1 ⟨rfl, hE⟩)
    go_ret3
    exact ⟨rfl, hE⟩
end Go.Proofs.YtlnonmmaknhppaaGreatDoor
namespace Go.Proofs.YtlnonmmaknhppaaGreatDoor
open Go.RowKit
open Go.Lib (decDigits itoa)
def largeB (m : Txt) : Bool := decide (30 < (topS m).length) || decide (30 < (lowS m).length)
def demE (m : Txt) : Nat := if fracE m ≠ 0 then fracE m else if fracQ m < 1 then 2 else if 10 < fracQ m then 2 else if largeB m = true then 11 else 0
theorem margin_good {m : Txt} (h : fracE m = 0) (hb : largeB m = false) : Good 30 m (fracQ m) := by
  obtain ⟨h1, h2, h3, h4, h5, _, _⟩ := frac_parts h
  unfold largeB at hb
  simp only [Bool.or_eq_false_iff, decide_eq_false_iff_not] at hb
  refine ⟨h, rfl, ?_⟩
  unfold fracQ
  have hd : ∀ l : Txt, DigitL l → l.length ≤ 30 → decV l < 10 ^ 30 := fun l hl hn => Nat.lt_of_lt_of_le (decV_lt hl) (Nat.pow_le_pow_right (by omega) hn)
  refine fit_mk (by omega) ?_ ?_
  · rw [intV_abs]
    refine hd _ h1.1.1 ?_
    have : (bareS (topS m)).length ≤ (topS m).length := by unfold bareS; split <;> simp
    omega
  · exact hd _ h3.1 (by omega)
def needT (load : Int) (m : Txt) : Txt := fracT ((load : Rat) * fracQ m)
theorem need_good {load : Int} {m : Txt} (h : demE m = 0) (h0 : 0 ≤ load) (h1 : load ≤ 1000000) : mulS (itoa load) m = (needT load m, 0) ∧ Good 38 (needT load m) ((load : Rat) * fracQ m) := by
  unfold demE at h
  split at h
  · rename_i g; exact absurd h g
  · rename_i g
    split at h
    · cases h
    · split at h
      · cases h
      · split at h
        · cases h
        · rename_i g2
          have hb : largeB m = false := by simpa using g2
          exact (int_good (n := load) (K := 8) (by omega) (by omega) (by omega)).mul (margin_good (Decidable.not_not.1 g) hb) (by omega)
theorem one1_good : Good 1 [49] 1 := ⟨by decide, by decide +kernel, by unfold FitB; decide +kernel⟩
theorem ten_good : Good 2 [49, 48] 10 := ⟨by decide, by decide +kernel, by unfold FitB; decide +kernel⟩
theorem ord_vals (a b : Txt) : ordQ a b = -1 ∨ ordQ a b = 0 ∨ ordQ a b = 1 := by
  unfold ordQ
  rcases Int.lt_trichotomy (fracQ a - fracQ b).num 0 with h | h | h
  · exact .inl (Int.sign_eq_neg_one_of_neg h)
  · rw [h]; exact .inr (.inl rfl)
  · exact .inr (.inr (Int.sign_eq_one_of_pos h))
theorem lim_one {m : Txt} : (ordQ m [49] == (-1 : Int)) = decide (fracQ m < 1) := by
  have h1 := ord_lt (a := m) (b := [49])
  rw [one1_good.val] at h1
  rw [Bool.eq_iff_iff, beq_iff_eq, decide_eq_true_eq, ← h1]
  rcases ord_vals m [49] with h | h | h <;> omega
theorem lim_ten {m : Txt} : (ordQ m [49, 48] == (1 : Int)) = decide (10 < fracQ m) := by
  have h1 := ord_gt (a := m) (b := [49, 48])
  rw [ten_good.val] at h1
  rw [Bool.eq_iff_iff, beq_iff_eq, decide_eq_true_eq, ← h1]
  rcases ord_vals m [49, 48] with h | h | h <;> omega
set_option maxHeartbeats 8000000 in
set_option maxRecDepth 100000 in
theorem demand_any (load : Int) (m : Txt) (w : World) (hG : Glob w) (hm : m.length ≤ 400) (h0 : 0 ≤ load) (h1 : load ≤ 1000000) :
    Calls Tryz.prog 50 #[.int .i64 load, txt m] w fun e w' => e = .returned (.tuple #[txt (if demE m = 0 then needT load m else []), .int .i64 (demE m : Nat)]) ∧ Ext w w' := by
  have HPA := Lib.hid (fun W (g : Ext w W) => partsF_any m W (hG.ext g) hm)
  have HG := Lib.hid hG
  obtain ⟨R, hR⟩ : ∃ R, R = demE m := ⟨_, rfl⟩
  obtain ⟨Z, hZ⟩ : ∃ Z, Z = (if demE m = 0 then needT load m else []) := ⟨_, rfl⟩
  rw [← hZ, ← hR]
  have HNG := Lib.hid (fun h => (need_good (load := load) (m := m) h h0 h1).1)
  rw [← hR] at hZ
  have HRE := Lib.hid hR
  unfold demE at hR
  unfold ParP at HPA
  by_cases hf : fracE m = 0
  rotate_left
  · rw [parts_bad hf] at HPA
    rw [if_pos hf] at hR
    generalize fracE m = n at HPA hR hf
    have hne : (((n : Nat) : Int) != 0) = true := by rw [bne_iff_ne]; omega
    have HR := Lib.hid (And.intro hR (hZ.trans (if_neg (by omega))))
    clear hR hZ hf hG
    go_enter Tryz.func50, Tryz.ntmps50
    go_wp2_with fail
    refine (HPA.out _ (Ext.refl _)).mono ?_
    rintro e w1 ⟨rfl, hE⟩
    go_wp2
    go_ret2
    exact ⟨by rw [HR.out.1, HR.out.2]; rfl, hE⟩
  rw [parts_ok hf] at HPA
  rw [if_neg (not_not_intro hf)] at hR
  have HC := Lib.hid (fun (lt : Txt) W (g : Ext w W) (hl : fracE lt = 0) => compareF_any m lt W (hG.ext g) hm (len_right hl))
  have HM := Lib.hid (fun W (g : Ext w W) => mul_any (itoa load) m W (hG.ext g) (by have := itoa_len (n := load) (by omega) (by omega); omega) hm)
  have HW := Lib.hid (fun W (g : Ext w W) => whole_any load W (hG.ext g) (by omega) (by omega))
  have HL1 := Lib.hid (lim_one (m := m))
  have HL2 := Lib.hid (lim_ten (m := m))
  have HLG : Hid (largeB m = (decide (30 < (topS m).length) || decide (30 < (lowS m).length))) := rfl
  have HZ := Lib.hid hZ
  have HR := Lib.hid hR
  have HFM := Lib.hid hf
  clear hZ hR hf hG h0 h1
  go_enter Tryz.func50, Tryz.ntmps50
  go_wp2_with fail
  refine (HPA.out _ (Ext.refl _)).mono ?_
  rintro e w1 ⟨rfl, E⟩
  go_wp2
  have E1 : Ext w1 (w1.alloc (.cells #[txt [49], .int .i64 (-1), txt [49, 48], .int .i64 1] 136)) := extA
  have l0 : ((w1.alloc (.cells #[txt [49], .int .i64 (-1), txt [49, 48], .int .i64 1] 136))).cell? ⟨w1.heap.size, 0, none⟩ = some (txt [49]) := by go_simp
  have l1 : ((w1.alloc (.cells #[txt [49], .int .i64 (-1), txt [49, 48], .int .i64 1] 136))).cell? ⟨w1.heap.size, 1, none⟩ = some (.int .i64 (-1)) := by go_simp
  have l2 : ((w1.alloc (.cells #[txt [49], .int .i64 (-1), txt [49, 48], .int .i64 1] 136))).cell? ⟨w1.heap.size, 2, none⟩ = some (txt [49, 48]) := by go_simp
  have l3 : ((w1.alloc (.cells #[txt [49], .int .i64 (-1), txt [49, 48], .int .i64 1] 136))).cell? ⟨w1.heap.size, 3, none⟩ = some (.int .i64 1) := by go_simp
  obtain ⟨lb, hlb⟩ : ∃ lb, lb = w1.heap.size := ⟨_, rfl⟩
  rw [← hlb] at l0 l1 l2 l3 ⊢
  clear hlb
  replace E := E.trans E1
  clear E1
  generalize (w1.alloc (.cells #[txt [49], .int .i64 (-1), txt [49, 48], .int .i64 1] 136)) = W at E l0 l1 l2 l3 ⊢
  have PL : Hid (∀ k : Nat, k < 2 → ∃ (lt : Txt) (sg : Int), W.cell? ⟨lb, k * 2, none⟩ = some (txt lt) ∧ W.cell? ⟨lb, k * 2 + 1, none⟩ = some (.int .i64 sg) ∧ fracE lt = 0 ∧ (k = 0 → (ordQ m lt == sg) = decide (fracQ m < 1)) ∧ (k = 1 → (ordQ m lt == sg) = decide (10 < fracQ m))) := fun k hk => by
    have : k = 0 ∨ k = 1 := by omega
    rcases this with rfl | rfl
    · exact ⟨[49], -1, l0, l1, by decide, fun _ => HL1.out, fun h => (by cases h)⟩
    · exact ⟨[49, 48], 1, l2, l3, by decide, fun h => (by cases h), fun _ => HL2.out⟩
  clear l0 l1 l2 l3
  go_loopw [26] (fun x wr => ∃ k : Nat, k ≤ 2 ∧ x = .int .i64 k ∧ Hid ((1 ≤ k → decide (fracQ m < 1) = false) ∧ (2 ≤ k → decide (10 < fracQ m) = false)) ∧ Ext W wr) (fun x _ => 2 - (intOf x).toNat)
  case atStart => exact ⟨0, Nat.zero_le _, rfl, ⟨fun h => (by omega), fun h => (by omega)⟩, Ext.refl _⟩
  case round =>
    obtain ⟨k, hk, rfl, hz, he⟩ := hrel
    by_cases hlt : k < 2
    · obtain ⟨lt, sg, q0, q1, hfl, q2, q3⟩ := PL.out k hlt
      have q0 := he.cell q0
      have q1 := he.cell q1
      have zl := cell_lt q0
      dsimp only at zl
      have hcm : cmpS m lt = (ordQ m lt, 0) := cmp_good (bothE_zero HFM.out hfl)
      have HCC : Hid (∀ W', Ext w W' → Calls Tryz.prog 22 #[txt m, txt lt] W' fun e w' => e = .returned (.tuple #[.int .i64 (ordQ m lt), .int .i64 ((0 : Nat) : Int)]) ∧ Ext W' w') := fun W' g => by
        have := HC.out lt W' g hfl
        rw [hcm] at this
        exact this
      obtain ⟨od, hod⟩ : ∃ od, od = ordQ m lt := ⟨_, rfl⟩
      rw [← hod] at HCC q2 q3
      obtain ⟨bb, hbb⟩ : ∃ bb, bb = (od == sg) := ⟨_, rfl⟩
      have HB := Lib.hid (And.intro (fun h => (hbb.trans (q2 h) : bb = decide (fracQ m < 1))) (fun h => (hbb.trans (q3 h) : bb = decide (10 < fracQ m))))
      clear hfl hcm q2 q3 hod
      go_wp2_with fail
      have E5 : Ext wr (wr.alloc (.cells #[txt lt, .int .i64 sg] 136)) := extA
      have m0 : ((wr.alloc (.cells #[txt lt, .int .i64 sg] 136))).cell? ⟨wr.heap.size, 0, none⟩ = some (txt lt) := by go_simp
      have m1 : ((wr.alloc (.cells #[txt lt, .int .i64 sg] 136))).cell? ⟨wr.heap.size, 1, none⟩ = some (.int .i64 sg) := by go_simp
      refine (HCC.out _ (E.trans (he.trans E5))).mono ?_
      rintro e w5 ⟨rfl, hE⟩
      have m1 := hE.cell m1
      have zm := cell_lt m1
      dsimp only at zm
      have he2 := he.trans (E5.trans hE)
      clear hE E5 m0 q0 q1 zl he
      cases bb
      · have hne : (od == sg) = false := hbb.symm
        have HN : Hid ((1 ≤ k + 1 → decide (fracQ m < 1) = false) ∧ (2 ≤ k + 1 → decide (10 < fracQ m) = false)) := by
          have : k = 0 ∨ k = 1 := by omega
          rcases this with rfl | rfl
          · exact ⟨fun _ => (HB.out.1 rfl).symm, fun h => (by omega)⟩
          · exact ⟨fun _ => hz.out.1 (by omega), fun _ => (HB.out.2 rfl).symm⟩
        clear HB hz hbb
        go_wp2
        refine ⟨⟨k + 1, by omega, by go_num, HN.out, he2⟩, by simp [intOf]; omega⟩
      · have hne : (od == sg) = true := hbb.symm
        have HN : Hid (R = 2 ∧ Z = []) := by
          have hR2 : R = 2 := by
            have : k = 0 ∨ k = 1 := by omega
            rw [HR.out]
            rcases this with rfl | rfl
            · rw [if_pos (of_decide_eq_true (HB.out.1 rfl).symm)]
            · rw [if_neg (of_decide_eq_false (hz.out.1 (by omega))), if_pos (of_decide_eq_true (HB.out.2 rfl).symm)]
          exact ⟨hR2, by rw [HZ.out, if_neg (by omega)]⟩
        clear HB hz hbb
        go_wp2
        go_ret2
        exact ⟨by rw [HN.out.1, HN.out.2]; rfl, E.trans he2⟩
    · have hke : k = 2 := by omega
      subst hke
      have hz1 := of_decide_eq_false (hz.out.1 (by omega))
      have hz2 := of_decide_eq_false (hz.out.2 (by omega))
      have m1 := HR.out
      rw [if_neg hz1, if_neg hz2] at m1
      have EE := E.trans he
      by_cases hb : largeB m = true
      · rw [if_pos hb] at m1
        have HN := Lib.hid (And.intro m1 (HZ.out.trans (if_neg (by omega))))
        have hb2 := hb
        rw [HLG.out, Bool.or_eq_true, decide_eq_true_eq, decide_eq_true_eq] at hb2
        clear m1 hz hz1 hz2 hb
        by_cases hn : 30 < (topS m).length
        · have hn2 : (30 : Int) < ((topS m).length : Int) := by omega
          go_wp2
          go_ret2
          exact ⟨by rw [HN.out.1, HN.out.2]; rfl, EE⟩
        · have hd : 30 < (lowS m).length := hb2.resolve_left hn
          have hn2 : ¬ (30 : Int) < ((topS m).length : Int) := by omega
          have hd2 : (30 : Int) < ((lowS m).length : Int) := by omega
          go_wp2
          go_ret2
          exact ⟨by rw [HN.out.1, HN.out.2]; rfl, EE⟩
      · rw [if_neg hb] at m1
        have HN := Lib.hid (And.intro m1 (HZ.out.trans (if_pos m1)))
        have hb2 : largeB m = false := by simpa using hb
        rw [HLG.out] at hb2
        simp only [Bool.or_eq_false_iff, decide_eq_false_iff_not] at hb2
        obtain ⟨hn, hd⟩ := hb2
        have hn2 : ¬ (30 : Int) < ((topS m).length : Int) := by omega
        have hd2 : ¬ (30 : Int) < ((lowS m).length : Int) := by omega
        have hmul := HNG.out (HRE.out.symm.trans m1)
        rw [hmul] at HM
        unfold ResP at HM
        clear m1 hz hz1 hz2 hb hmul
        go_wp2_with fail
        refine (HW.out _ EE).mono ?_
        rintro e w5 ⟨rfl, hE⟩
        have E5 := EE.trans hE
        go_wp2_with fail
        refine (HM.out _ E5).mono ?_
        rintro e w6 ⟨rfl, hE6⟩
        go_wp2
        go_ret2
        exact ⟨by rw [HN.out.1, HN.out.2]; rfl, E5.trans hE6⟩
end Go.Proofs.YtlnonmmaknhppaaGreatDoor
