/- Steps of the proof: FParse, FChkR, FSumN, FNumR, FWrit, FMadR, FMakP, FLongR, FOfR. No conditions. -/
import Derived.Test.YtlhpfhnbeagnaaaGreatDoorZCB1
import Derived.Test.YtlhpfhnbeagnaaaGreatDoorZCB2
import Derived.Test.YtlhpfhnbeagnaaaGreatDoorZCB3
import Derived.Test.YtlhpfhnbeagnaaaGreatDoorZCB4
import Derived.Test.YtlhpfhnbeagnaaaGreatDoorZCB5
namespace Go.Proofs.YtlhpfhnbeagnaaaGreatDoor
open Go.RowKit
theorem results_cell_tmp1 {fn : Func} {p u : Tmp} {ty : TypeId} (h : fn.results = #[.cell p ty, .tmp u]) (tmps : Array Value) (P : Program) (w : World) :
    (results fn tmps).run P w = ((asAddr (tmps.getD p undef)).run P w).andThen fun a w₁ => ((loadVar ty a).run P w₁).andThen fun x w₂ => .ok (.tuple #[x, tmps.getD u undef]) w₂ := by
  simp only [results, h]
  simp [Sem.run_bind, Result.andThen]
def NumV (w : World) (v : Value) (x : Num) : Prop := ∃ ta tc ba bc, v = .agg #[.bool x.1, .slice ta (toB 1000000000 x.2.1).length tc, .slice ba (toB 1000000000 x.2.2).length bc] ∧
  CellsN .u64 w ta (toB 1000000000 x.2.1) ∧ CellsN .u64 w ba (toB 1000000000 x.2.2)
theorem NumV.ext {w w' : World} {v : Value} {x : Num} (h : NumV w v x) (e : Ext w w') : NumV w' v x := by
  obtain ⟨ta, tc, ba, bc, h1, h2, h3⟩ := h
  exact ⟨ta, tc, ba, bc, h1, h2.ext e, h3.ext e⟩
structure Num3 (b : Nat) (W : World) (x y z : Value) : Prop where
  c0 : W.cell? ⟨b, 0, none⟩ = some x
  c1 : W.cell? ⟨b, 1, none⟩ = some y
  c2 : W.cell? ⟨b, 2, none⟩ = some z
  f0 : W.frozen? ⟨b, 0, none⟩ = false
  f1 : W.frozen? ⟨b, 1, none⟩ = false
  f2 : W.frozen? ⟨b, 2, none⟩ = false
theorem Num3.ext {b : Nat} {A B : World} {x y z : Value} (h : Num3 b A x y z) (e : Ext A B) : Num3 b B x y z := by
  have hz : b < A.heap.size := cell_lt h.c0
  exact ⟨e.cell h.c0, e.cell h.c1, e.cell h.c2, (Below.frozen (p := ⟨b, 0, none⟩) e hz).trans h.f0, (Below.frozen (p := ⟨b, 1, none⟩) e hz).trans h.f1, (Below.frozen (p := ⟨b, 2, none⟩) e hz).trans h.f2⟩
theorem Num3.set0 {b : Nat} {A : World} {x y z : Value} (h : Num3 b A x y z) (v : Value) : Num3 b (A.setCell ⟨b, 0, none⟩ v) v y z := by
  refine ⟨World.cell?_setCell_same _ _ _ h.c0, ?_, ?_, ?_, ?_, ?_⟩
  · rw [World.cell?_setCell_other _ _ _ _ (fun h => by simp only [Addr.mk.injEq] at h; omega)]; exact h.c1
  · rw [World.cell?_setCell_other _ _ _ _ (fun h => by simp only [Addr.mk.injEq] at h; omega)]; exact h.c2
  · rw [World.frozen?_setCell]; exact h.f0
  · rw [World.frozen?_setCell]; exact h.f1
  · rw [World.frozen?_setCell]; exact h.f2
theorem Num3.set1 {b : Nat} {A : World} {x y z : Value} (h : Num3 b A x y z) (v : Value) : Num3 b (A.setCell ⟨b, 1, none⟩ v) x v z := by
  refine ⟨?_, World.cell?_setCell_same _ _ _ h.c1, ?_, ?_, ?_, ?_⟩
  · rw [World.cell?_setCell_other _ _ _ _ (fun h => by simp only [Addr.mk.injEq] at h; omega)]; exact h.c0
  · rw [World.cell?_setCell_other _ _ _ _ (fun h => by simp only [Addr.mk.injEq] at h; omega)]; exact h.c2
  · rw [World.frozen?_setCell]; exact h.f0
  · rw [World.frozen?_setCell]; exact h.f1
  · rw [World.frozen?_setCell]; exact h.f2
theorem Num3.set2 {b : Nat} {A : World} {x y z : Value} (h : Num3 b A x y z) (v : Value) : Num3 b (A.setCell ⟨b, 2, none⟩ v) x y v := by
  refine ⟨?_, ?_, World.cell?_setCell_same _ _ _ h.c2, ?_, ?_, ?_⟩
  · rw [World.cell?_setCell_other _ _ _ _ (fun h => by simp only [Addr.mk.injEq] at h; omega)]; exact h.c0
  · rw [World.cell?_setCell_other _ _ _ _ (fun h => by simp only [Addr.mk.injEq] at h; omega)]; exact h.c1
  · rw [World.frozen?_setCell]; exact h.f0
  · rw [World.frozen?_setCell]; exact h.f1
  · rw [World.frozen?_setCell]; exact h.f2
theorem Num3.other {b c o : Nat} {A : World} {x y z : Value} (h : Num3 b A x y z) (hc : c ≠ b) (v : Value) : Num3 b (A.setCell ⟨c, o, none⟩ v) x y z := by
  refine ⟨?_, ?_, ?_, ?_, ?_, ?_⟩
  · rw [World.cell?_setCell_other _ _ _ _ (fun h => by simp only [Addr.mk.injEq] at h; omega)]; exact h.c0
  · rw [World.cell?_setCell_other _ _ _ _ (fun h => by simp only [Addr.mk.injEq] at h; omega)]; exact h.c1
  · rw [World.cell?_setCell_other _ _ _ _ (fun h => by simp only [Addr.mk.injEq] at h; omega)]; exact h.c2
  · rw [World.frozen?_setCell]; exact h.f0
  · rw [World.frozen?_setCell]; exact h.f1
  · rw [World.frozen?_setCell]; exact h.f2
theorem ordN_zero {a b : Nat} : ordN a b = 0 ↔ a = b := by
  unfold ordN
  by_cases h : a < b
  · rw [if_pos h]; omega
  · rw [if_neg h]
    by_cases k : b < a
    · rw [if_pos k]; omega
    · rw [if_neg k]; omega
theorem cells_lit (w : World) (t : TypeId) : CellsN .u64 (w.alloc (.cells #[.int .u64 1] t)) (some ⟨w.heap.size, 0, none⟩) (toB 1000000000 1) := by
  rw [toB_one (by omega) (by omega) (by omega)]
  intro i hi
  have hi0 : i = 0 := by simp at hi; exact hi
  subst hi0
  exact ⟨_, 0, rfl, by go_simp⟩
theorem compare1_any (x : Nat) (la : List Nat) (a : Option Addr) (ca b : Nat) (w : World) (hx : la = toB 1000000000 x) (hla : la.length ≤ 200) (ha : CellsN .u64 w a la) (hb : CellsN .u64 w (some ⟨b, 0, none⟩) (toB 1000000000 1)) :
    Calls Tryz.prog 138 #[.slice a la.length ca, .slice (some ⟨b, 0, none⟩) 1 1] w fun e w' => e = .returned (.int .i64 (ordN x 1)) ∧ Ext w w' := by
  rw [toB_one (by omega) (by omega) (by omega)] at hb
  exact compare_any x 1 la [1] a _ ca 1 w hx (toB_one (by omega) (by omega) (by omega)).symm hla (by simp) ha hb
def Shape3 (v : Value) : Prop := ∃ (b : Bool) (ta : Option Addr) (tn tc : Nat) (ba : Option Addr) (bn bc : Nat), v = .agg #[.bool b, .slice ta tn tc, .slice ba bn bc]
def ParsedPost (t : Txt) (w : World) (e : Ending) (w' : World) : Prop :=
  ∃ v, e = .returned (.tuple #[v, .int .i64 (fracE t : Nat)]) ∧ Shape3 v ∧ (fracE t = 0 → NumV w' v (numOf t)) ∧ Ext w w'
theorem fracE_eq (t : Txt) : fracE t = if ¬ IntS (topS t) ∨ ¬ IntS (lowS t) then 3 else if 60 < (bareS (topS t)).length ∨ 60 < (bareS (lowS t)).length then 11 else if 47 ∉ t then 0 else
    if negS (lowS t) = true ∨ decV (lowS t) ≤ 1 ∨ Nat.gcd (decV (bareS (topS t))) (decV (lowS t)) ≠ 1 then 3 else 0 := by
  unfold fracE intE
  by_cases h1 : IntS (topS t)
  · by_cases h2 : IntS (lowS t)
    · by_cases h3 : 60 < (bareS (topS t)).length
      · by_cases h4 : 60 < (bareS (lowS t)).length <;> simp [h1, h2, h3, h4]
      · by_cases h4 : 60 < (bareS (lowS t)).length
        · simp [h1, h2, h3, h4]
        · simp [h1, h2, h3, h4]
    · simp [h1, h2]
  · simp [h1]
set_option maxHeartbeats 8000000 in
set_option maxRecDepth 100000 in
theorem parsed_any (t : Txt) (w : World) (hG : Glob w) (hl : t.length ≤ 400) :
    Calls Tryz.prog 120 #[txt t] w (ParsedPost t w) := by
  have hlens : (topS t).length ≤ t.length ∧ (lowS t).length ≤ t.length + 1 := by
    by_cases hs : 47 ∈ t
    · have e := congrArg List.length (split_some hs)
      rw [List.length_append, List.length_cons] at e
      omega
    · obtain ⟨a1, a2⟩ := split_none hs
      rw [a1, a2]
      exact ⟨Nat.le_refl _, by simp⟩
  obtain ⟨ht1, ht2⟩ := hlens
  have HG := Lib.hid hG
  have HCut := Lib.hid (fun W (hW : Ext w W) => Cut_any t W (hG.ext hW) (by omega))
  obtain ⟨f, hf⟩ : ∃ f, f = decide (47 ∈ t) := ⟨_, rfl⟩
  obtain ⟨i1, hi1⟩ : ∃ f, f = decide (IntS (topS t)) := ⟨_, rfl⟩
  obtain ⟨i2, hi2⟩ : ∃ f, f = decide (IntS (lowS t)) := ⟨_, rfl⟩
  obtain ⟨l1, hl1⟩ : ∃ f, f = decide (60 < (bareS (topS t)).length) := ⟨_, rfl⟩
  obtain ⟨l2, hl2⟩ : ∃ f, f = decide (60 < (bareS (lowS t)).length) := ⟨_, rfl⟩
  have HI1 := Lib.hid (fun W => integer_any (topS t) W (by omega))
  have HI2 := Lib.hid (fun W => integer_any (lowS t) W (by omega))
  have HL1 := Lib.hid (fun W => long_any (topS t) W)
  have HL2 := Lib.hid (fun W => long_any (lowS t) W)
  rw [← hi1] at HI1
  rw [← hi2] at HI2
  rw [← hl1] at HL1
  rw [← hl2] at HL2
  rw [← hf] at HCut
  have hlow : f = false → lowS t = [49] := fun h => (split_none (fun e => by rw [hf, decide_eq_true e] at h; cases h)).2
  have hlow2 : (if 47 ∈ t then lowS t else []) = if f then lowS t else [] := by
    by_cases e : 47 ∈ t
    · rw [hf, decide_eq_true e, if_pos e, if_pos rfl]
    · rw [hf, decide_eq_false e, if_neg e, if_neg (by simp)]
  rw [hlow2] at HCut
  clear hlow2
  have HFE := Lib.hid (fracE_eq t)
  obtain ⟨W0, hW0⟩ : ∃ W0, W0 = w.alloc (.cells #[.bool false, .slice none 0 0, .slice none 0 0] 157) := ⟨_, rfl⟩
  have c0 : W0.cell? ⟨w.heap.size, 0, none⟩ = some (.bool false) := by rw [hW0]; go_simp
  have c1 : W0.cell? ⟨w.heap.size, 1, none⟩ = some (.slice none 0 0) := by rw [hW0]; go_simp
  have c2 : W0.cell? ⟨w.heap.size, 2, none⟩ = some (.slice none 0 0) := by rw [hW0]; go_simp
  have f0 : W0.frozen? ⟨w.heap.size, 0, none⟩ = false := by rw [hW0]; go_simp
  have f1 : W0.frozen? ⟨w.heap.size, 1, none⟩ = false := by rw [hW0]; go_simp
  have f2 : W0.frozen? ⟨w.heap.size, 2, none⟩ = false := by rw [hW0]; go_simp
  have EX : Ext w W0 := by rw [hW0]; exact extA
  have hWW := hW0.symm
  have HF := Lib.hid hf
  have HB1 := Lib.hid hi1
  have HB2 := Lib.hid hi2
  have HB3 := Lib.hid hl1
  have HB4 := Lib.hid hl2
  have HLOW := Lib.hid hlow
  clear hW0 hf hi1 hi2 hl1 hl2 hlow hG
  have HTN := Lib.hid (show numOf t = (negS (topS t), decV (bareS (topS t)), decV (lowS t)) from rfl)
  generalize htop : topS t = top at *
  generalize hlw : lowS t = low at *
  clear htop hlw
  cases i1
  · have HE : Hid (fracE t = 3) := HFE.out.trans (by rw [if_pos (.inl (of_decide_eq_false HB1.out.symm))])
    clear HFE HB1 HB2 HB3 HB4 HTN HL1 HL2 HI2
    go_enter Tryz.func120, Tryz.ntmps120
    cases f
    · have hl0 := HLOW.out rfl
      subst hl0
      go_wp2_with (first
      | (go_at_call 134; (with_reducible refine (HCut.out _ EX).mono ?_); rintro e w' ⟨rfl, hE⟩; replace f0 := (Below.frozen (p := ⟨w.heap.size, 0, none⟩) hE (cell_lt c0)).trans f0; replace f1 := (Below.frozen (p := ⟨w.heap.size, 1, none⟩) hE (cell_lt c1)).trans f1; replace f2 := (Below.frozen (p := ⟨w.heap.size, 2, none⟩) hE (cell_lt c2)).trans f2; replace c0 := hE.cell c0; replace c1 := hE.cell c1; replace c2 := hE.cell c2; replace EX := EX.trans hE; clear hE)
      | (go_at_call 135; (with_reducible refine (HI1.out _).mono ?_); rintro e w' ⟨rfl, hE⟩; replace f0 := (Below.frozen (p := ⟨w.heap.size, 0, none⟩) hE (cell_lt c0)).trans f0; replace f1 := (Below.frozen (p := ⟨w.heap.size, 1, none⟩) hE (cell_lt c1)).trans f1; replace f2 := (Below.frozen (p := ⟨w.heap.size, 2, none⟩) hE (cell_lt c2)).trans f2; replace c0 := hE.cell c0; replace c1 := hE.cell c1; replace c2 := hE.cell c2; replace EX := EX.trans hE; clear hE)
      | (go_at_call 135; (with_reducible refine (HI2.out _).mono ?_); rintro e w' ⟨rfl, hE⟩; replace f0 := (Below.frozen (p := ⟨w.heap.size, 0, none⟩) hE (cell_lt c0)).trans f0; replace f1 := (Below.frozen (p := ⟨w.heap.size, 1, none⟩) hE (cell_lt c1)).trans f1; replace f2 := (Below.frozen (p := ⟨w.heap.size, 2, none⟩) hE (cell_lt c2)).trans f2; replace c0 := hE.cell c0; replace c1 := hE.cell c1; replace c2 := hE.cell c2; replace EX := EX.trans hE; clear hE)
      | (go_at_call 136; (with_reducible refine (HL1.out _).mono ?_); rintro e w' ⟨rfl, hE⟩; replace f0 := (Below.frozen (p := ⟨w.heap.size, 0, none⟩) hE (cell_lt c0)).trans f0; replace f1 := (Below.frozen (p := ⟨w.heap.size, 1, none⟩) hE (cell_lt c1)).trans f1; replace f2 := (Below.frozen (p := ⟨w.heap.size, 2, none⟩) hE (cell_lt c2)).trans f2; replace c0 := hE.cell c0; replace c1 := hE.cell c1; replace c2 := hE.cell c2; replace EX := EX.trans hE; clear hE)
      | (go_at_call 136; (with_reducible refine (HL2.out _).mono ?_); rintro e w' ⟨rfl, hE⟩; replace f0 := (Below.frozen (p := ⟨w.heap.size, 0, none⟩) hE (cell_lt c0)).trans f0; replace f1 := (Below.frozen (p := ⟨w.heap.size, 1, none⟩) hE (cell_lt c1)).trans f1; replace f2 := (Below.frozen (p := ⟨w.heap.size, 2, none⟩) hE (cell_lt c2)).trans f2; replace c0 := hE.cell c0; replace c1 := hE.cell c1; replace c2 := hE.cell c2; replace EX := EX.trans hE; clear hE))
      refine bodyPost_ret (v := .tuple #[.agg #[.bool false, .slice none 0 0, .slice none 0 0], .int .i64 3]) (by rw [results_cell_tmp1 rfl]; go_simp) rfl ?_
      exact ⟨_, by rw [HE.out]; rfl, ⟨_, _, _, _, _, _, _, rfl⟩, fun h => absurd (HE.out.symm.trans h) (by decide), extA⟩
    · go_wp2_with (first
      | (go_at_call 134; (with_reducible refine (HCut.out _ EX).mono ?_); rintro e w' ⟨rfl, hE⟩; replace f0 := (Below.frozen (p := ⟨w.heap.size, 0, none⟩) hE (cell_lt c0)).trans f0; replace f1 := (Below.frozen (p := ⟨w.heap.size, 1, none⟩) hE (cell_lt c1)).trans f1; replace f2 := (Below.frozen (p := ⟨w.heap.size, 2, none⟩) hE (cell_lt c2)).trans f2; replace c0 := hE.cell c0; replace c1 := hE.cell c1; replace c2 := hE.cell c2; replace EX := EX.trans hE; clear hE)
      | (go_at_call 135; (with_reducible refine (HI1.out _).mono ?_); rintro e w' ⟨rfl, hE⟩; replace f0 := (Below.frozen (p := ⟨w.heap.size, 0, none⟩) hE (cell_lt c0)).trans f0; replace f1 := (Below.frozen (p := ⟨w.heap.size, 1, none⟩) hE (cell_lt c1)).trans f1; replace f2 := (Below.frozen (p := ⟨w.heap.size, 2, none⟩) hE (cell_lt c2)).trans f2; replace c0 := hE.cell c0; replace c1 := hE.cell c1; replace c2 := hE.cell c2; replace EX := EX.trans hE; clear hE)
      | (go_at_call 135; (with_reducible refine (HI2.out _).mono ?_); rintro e w' ⟨rfl, hE⟩; replace f0 := (Below.frozen (p := ⟨w.heap.size, 0, none⟩) hE (cell_lt c0)).trans f0; replace f1 := (Below.frozen (p := ⟨w.heap.size, 1, none⟩) hE (cell_lt c1)).trans f1; replace f2 := (Below.frozen (p := ⟨w.heap.size, 2, none⟩) hE (cell_lt c2)).trans f2; replace c0 := hE.cell c0; replace c1 := hE.cell c1; replace c2 := hE.cell c2; replace EX := EX.trans hE; clear hE)
      | (go_at_call 136; (with_reducible refine (HL1.out _).mono ?_); rintro e w' ⟨rfl, hE⟩; replace f0 := (Below.frozen (p := ⟨w.heap.size, 0, none⟩) hE (cell_lt c0)).trans f0; replace f1 := (Below.frozen (p := ⟨w.heap.size, 1, none⟩) hE (cell_lt c1)).trans f1; replace f2 := (Below.frozen (p := ⟨w.heap.size, 2, none⟩) hE (cell_lt c2)).trans f2; replace c0 := hE.cell c0; replace c1 := hE.cell c1; replace c2 := hE.cell c2; replace EX := EX.trans hE; clear hE)
      | (go_at_call 136; (with_reducible refine (HL2.out _).mono ?_); rintro e w' ⟨rfl, hE⟩; replace f0 := (Below.frozen (p := ⟨w.heap.size, 0, none⟩) hE (cell_lt c0)).trans f0; replace f1 := (Below.frozen (p := ⟨w.heap.size, 1, none⟩) hE (cell_lt c1)).trans f1; replace f2 := (Below.frozen (p := ⟨w.heap.size, 2, none⟩) hE (cell_lt c2)).trans f2; replace c0 := hE.cell c0; replace c1 := hE.cell c1; replace c2 := hE.cell c2; replace EX := EX.trans hE; clear hE))
      refine bodyPost_ret (v := .tuple #[.agg #[.bool false, .slice none 0 0, .slice none 0 0], .int .i64 3]) (by rw [results_cell_tmp1 rfl]; go_simp) rfl ?_
      exact ⟨_, by rw [HE.out]; rfl, ⟨_, _, _, _, _, _, _, rfl⟩, fun h => absurd (HE.out.symm.trans h) (by decide), extA⟩
  cases i2
  · have HE : Hid (fracE t = 3) := HFE.out.trans (by rw [if_pos (.inr (of_decide_eq_false HB2.out.symm))])
    clear HFE HB1 HB2 HB3 HB4 HTN HL1 HL2
    go_enter Tryz.func120, Tryz.ntmps120
    cases f
    · have hl0 := HLOW.out rfl
      subst hl0
      go_wp2_with (first
      | (go_at_call 134; (with_reducible refine (HCut.out _ EX).mono ?_); rintro e w' ⟨rfl, hE⟩; replace f0 := (Below.frozen (p := ⟨w.heap.size, 0, none⟩) hE (cell_lt c0)).trans f0; replace f1 := (Below.frozen (p := ⟨w.heap.size, 1, none⟩) hE (cell_lt c1)).trans f1; replace f2 := (Below.frozen (p := ⟨w.heap.size, 2, none⟩) hE (cell_lt c2)).trans f2; replace c0 := hE.cell c0; replace c1 := hE.cell c1; replace c2 := hE.cell c2; replace EX := EX.trans hE; clear hE)
      | (go_at_call 135; (with_reducible refine (HI1.out _).mono ?_); rintro e w' ⟨rfl, hE⟩; replace f0 := (Below.frozen (p := ⟨w.heap.size, 0, none⟩) hE (cell_lt c0)).trans f0; replace f1 := (Below.frozen (p := ⟨w.heap.size, 1, none⟩) hE (cell_lt c1)).trans f1; replace f2 := (Below.frozen (p := ⟨w.heap.size, 2, none⟩) hE (cell_lt c2)).trans f2; replace c0 := hE.cell c0; replace c1 := hE.cell c1; replace c2 := hE.cell c2; replace EX := EX.trans hE; clear hE)
      | (go_at_call 135; (with_reducible refine (HI2.out _).mono ?_); rintro e w' ⟨rfl, hE⟩; replace f0 := (Below.frozen (p := ⟨w.heap.size, 0, none⟩) hE (cell_lt c0)).trans f0; replace f1 := (Below.frozen (p := ⟨w.heap.size, 1, none⟩) hE (cell_lt c1)).trans f1; replace f2 := (Below.frozen (p := ⟨w.heap.size, 2, none⟩) hE (cell_lt c2)).trans f2; replace c0 := hE.cell c0; replace c1 := hE.cell c1; replace c2 := hE.cell c2; replace EX := EX.trans hE; clear hE)
      | (go_at_call 136; (with_reducible refine (HL1.out _).mono ?_); rintro e w' ⟨rfl, hE⟩; replace f0 := (Below.frozen (p := ⟨w.heap.size, 0, none⟩) hE (cell_lt c0)).trans f0; replace f1 := (Below.frozen (p := ⟨w.heap.size, 1, none⟩) hE (cell_lt c1)).trans f1; replace f2 := (Below.frozen (p := ⟨w.heap.size, 2, none⟩) hE (cell_lt c2)).trans f2; replace c0 := hE.cell c0; replace c1 := hE.cell c1; replace c2 := hE.cell c2; replace EX := EX.trans hE; clear hE)
      | (go_at_call 136; (with_reducible refine (HL2.out _).mono ?_); rintro e w' ⟨rfl, hE⟩; replace f0 := (Below.frozen (p := ⟨w.heap.size, 0, none⟩) hE (cell_lt c0)).trans f0; replace f1 := (Below.frozen (p := ⟨w.heap.size, 1, none⟩) hE (cell_lt c1)).trans f1; replace f2 := (Below.frozen (p := ⟨w.heap.size, 2, none⟩) hE (cell_lt c2)).trans f2; replace c0 := hE.cell c0; replace c1 := hE.cell c1; replace c2 := hE.cell c2; replace EX := EX.trans hE; clear hE))
      refine bodyPost_ret (v := .tuple #[.agg #[.bool false, .slice none 0 0, .slice none 0 0], .int .i64 3]) (by rw [results_cell_tmp1 rfl]; go_simp) rfl ?_
      exact ⟨_, by rw [HE.out]; rfl, ⟨_, _, _, _, _, _, _, rfl⟩, fun h => absurd (HE.out.symm.trans h) (by decide), extA⟩
    · go_wp2_with (first
      | (go_at_call 134; (with_reducible refine (HCut.out _ EX).mono ?_); rintro e w' ⟨rfl, hE⟩; replace f0 := (Below.frozen (p := ⟨w.heap.size, 0, none⟩) hE (cell_lt c0)).trans f0; replace f1 := (Below.frozen (p := ⟨w.heap.size, 1, none⟩) hE (cell_lt c1)).trans f1; replace f2 := (Below.frozen (p := ⟨w.heap.size, 2, none⟩) hE (cell_lt c2)).trans f2; replace c0 := hE.cell c0; replace c1 := hE.cell c1; replace c2 := hE.cell c2; replace EX := EX.trans hE; clear hE)
      | (go_at_call 135; (with_reducible refine (HI1.out _).mono ?_); rintro e w' ⟨rfl, hE⟩; replace f0 := (Below.frozen (p := ⟨w.heap.size, 0, none⟩) hE (cell_lt c0)).trans f0; replace f1 := (Below.frozen (p := ⟨w.heap.size, 1, none⟩) hE (cell_lt c1)).trans f1; replace f2 := (Below.frozen (p := ⟨w.heap.size, 2, none⟩) hE (cell_lt c2)).trans f2; replace c0 := hE.cell c0; replace c1 := hE.cell c1; replace c2 := hE.cell c2; replace EX := EX.trans hE; clear hE)
      | (go_at_call 135; (with_reducible refine (HI2.out _).mono ?_); rintro e w' ⟨rfl, hE⟩; replace f0 := (Below.frozen (p := ⟨w.heap.size, 0, none⟩) hE (cell_lt c0)).trans f0; replace f1 := (Below.frozen (p := ⟨w.heap.size, 1, none⟩) hE (cell_lt c1)).trans f1; replace f2 := (Below.frozen (p := ⟨w.heap.size, 2, none⟩) hE (cell_lt c2)).trans f2; replace c0 := hE.cell c0; replace c1 := hE.cell c1; replace c2 := hE.cell c2; replace EX := EX.trans hE; clear hE)
      | (go_at_call 136; (with_reducible refine (HL1.out _).mono ?_); rintro e w' ⟨rfl, hE⟩; replace f0 := (Below.frozen (p := ⟨w.heap.size, 0, none⟩) hE (cell_lt c0)).trans f0; replace f1 := (Below.frozen (p := ⟨w.heap.size, 1, none⟩) hE (cell_lt c1)).trans f1; replace f2 := (Below.frozen (p := ⟨w.heap.size, 2, none⟩) hE (cell_lt c2)).trans f2; replace c0 := hE.cell c0; replace c1 := hE.cell c1; replace c2 := hE.cell c2; replace EX := EX.trans hE; clear hE)
      | (go_at_call 136; (with_reducible refine (HL2.out _).mono ?_); rintro e w' ⟨rfl, hE⟩; replace f0 := (Below.frozen (p := ⟨w.heap.size, 0, none⟩) hE (cell_lt c0)).trans f0; replace f1 := (Below.frozen (p := ⟨w.heap.size, 1, none⟩) hE (cell_lt c1)).trans f1; replace f2 := (Below.frozen (p := ⟨w.heap.size, 2, none⟩) hE (cell_lt c2)).trans f2; replace c0 := hE.cell c0; replace c1 := hE.cell c1; replace c2 := hE.cell c2; replace EX := EX.trans hE; clear hE))
      refine bodyPost_ret (v := .tuple #[.agg #[.bool false, .slice none 0 0, .slice none 0 0], .int .i64 3]) (by rw [results_cell_tmp1 rfl]; go_simp) rfl ?_
      exact ⟨_, by rw [HE.out]; rfl, ⟨_, _, _, _, _, _, _, rfl⟩, fun h => absurd (HE.out.symm.trans h) (by decide), extA⟩
  have HS1 := Lib.hid (of_decide_eq_true (p := IntS top) HB1.out.symm)
  have HS2 := Lib.hid (of_decide_eq_true (p := IntS low) HB2.out.symm)
  have HNI : Hid (¬ (¬ IntS top ∨ ¬ IntS low)) := fun h => h.elim (fun h => h HS1.out) (fun h => h HS2.out)
  cases l1
  rotate_left
  · have HE : Hid (fracE t = 11) := HFE.out.trans (by rw [if_neg HNI.out, if_pos (.inl (of_decide_eq_true HB3.out.symm))])
    clear HFE HB1 HB2 HB3 HB4 HTN HS1 HS2 HNI HL2
    go_enter Tryz.func120, Tryz.ntmps120
    cases f
    · have hl0 := HLOW.out rfl
      subst hl0
      go_wp2_with (first
      | (go_at_call 134; (with_reducible refine (HCut.out _ EX).mono ?_); rintro e w' ⟨rfl, hE⟩; replace f0 := (Below.frozen (p := ⟨w.heap.size, 0, none⟩) hE (cell_lt c0)).trans f0; replace f1 := (Below.frozen (p := ⟨w.heap.size, 1, none⟩) hE (cell_lt c1)).trans f1; replace f2 := (Below.frozen (p := ⟨w.heap.size, 2, none⟩) hE (cell_lt c2)).trans f2; replace c0 := hE.cell c0; replace c1 := hE.cell c1; replace c2 := hE.cell c2; replace EX := EX.trans hE; clear hE)
      | (go_at_call 135; (with_reducible refine (HI1.out _).mono ?_); rintro e w' ⟨rfl, hE⟩; replace f0 := (Below.frozen (p := ⟨w.heap.size, 0, none⟩) hE (cell_lt c0)).trans f0; replace f1 := (Below.frozen (p := ⟨w.heap.size, 1, none⟩) hE (cell_lt c1)).trans f1; replace f2 := (Below.frozen (p := ⟨w.heap.size, 2, none⟩) hE (cell_lt c2)).trans f2; replace c0 := hE.cell c0; replace c1 := hE.cell c1; replace c2 := hE.cell c2; replace EX := EX.trans hE; clear hE)
      | (go_at_call 135; (with_reducible refine (HI2.out _).mono ?_); rintro e w' ⟨rfl, hE⟩; replace f0 := (Below.frozen (p := ⟨w.heap.size, 0, none⟩) hE (cell_lt c0)).trans f0; replace f1 := (Below.frozen (p := ⟨w.heap.size, 1, none⟩) hE (cell_lt c1)).trans f1; replace f2 := (Below.frozen (p := ⟨w.heap.size, 2, none⟩) hE (cell_lt c2)).trans f2; replace c0 := hE.cell c0; replace c1 := hE.cell c1; replace c2 := hE.cell c2; replace EX := EX.trans hE; clear hE)
      | (go_at_call 136; (with_reducible refine (HL1.out _).mono ?_); rintro e w' ⟨rfl, hE⟩; replace f0 := (Below.frozen (p := ⟨w.heap.size, 0, none⟩) hE (cell_lt c0)).trans f0; replace f1 := (Below.frozen (p := ⟨w.heap.size, 1, none⟩) hE (cell_lt c1)).trans f1; replace f2 := (Below.frozen (p := ⟨w.heap.size, 2, none⟩) hE (cell_lt c2)).trans f2; replace c0 := hE.cell c0; replace c1 := hE.cell c1; replace c2 := hE.cell c2; replace EX := EX.trans hE; clear hE)
      | (go_at_call 136; (with_reducible refine (HL2.out _).mono ?_); rintro e w' ⟨rfl, hE⟩; replace f0 := (Below.frozen (p := ⟨w.heap.size, 0, none⟩) hE (cell_lt c0)).trans f0; replace f1 := (Below.frozen (p := ⟨w.heap.size, 1, none⟩) hE (cell_lt c1)).trans f1; replace f2 := (Below.frozen (p := ⟨w.heap.size, 2, none⟩) hE (cell_lt c2)).trans f2; replace c0 := hE.cell c0; replace c1 := hE.cell c1; replace c2 := hE.cell c2; replace EX := EX.trans hE; clear hE))
      refine bodyPost_ret (v := .tuple #[.agg #[.bool false, .slice none 0 0, .slice none 0 0], .int .i64 11]) (by rw [results_cell_tmp1 rfl]; go_simp) rfl ?_
      exact ⟨_, by rw [HE.out]; rfl, ⟨_, _, _, _, _, _, _, rfl⟩, fun h => absurd (HE.out.symm.trans h) (by decide), extA⟩
    · go_wp2_with (first
      | (go_at_call 134; (with_reducible refine (HCut.out _ EX).mono ?_); rintro e w' ⟨rfl, hE⟩; replace f0 := (Below.frozen (p := ⟨w.heap.size, 0, none⟩) hE (cell_lt c0)).trans f0; replace f1 := (Below.frozen (p := ⟨w.heap.size, 1, none⟩) hE (cell_lt c1)).trans f1; replace f2 := (Below.frozen (p := ⟨w.heap.size, 2, none⟩) hE (cell_lt c2)).trans f2; replace c0 := hE.cell c0; replace c1 := hE.cell c1; replace c2 := hE.cell c2; replace EX := EX.trans hE; clear hE)
      | (go_at_call 135; (with_reducible refine (HI1.out _).mono ?_); rintro e w' ⟨rfl, hE⟩; replace f0 := (Below.frozen (p := ⟨w.heap.size, 0, none⟩) hE (cell_lt c0)).trans f0; replace f1 := (Below.frozen (p := ⟨w.heap.size, 1, none⟩) hE (cell_lt c1)).trans f1; replace f2 := (Below.frozen (p := ⟨w.heap.size, 2, none⟩) hE (cell_lt c2)).trans f2; replace c0 := hE.cell c0; replace c1 := hE.cell c1; replace c2 := hE.cell c2; replace EX := EX.trans hE; clear hE)
      | (go_at_call 135; (with_reducible refine (HI2.out _).mono ?_); rintro e w' ⟨rfl, hE⟩; replace f0 := (Below.frozen (p := ⟨w.heap.size, 0, none⟩) hE (cell_lt c0)).trans f0; replace f1 := (Below.frozen (p := ⟨w.heap.size, 1, none⟩) hE (cell_lt c1)).trans f1; replace f2 := (Below.frozen (p := ⟨w.heap.size, 2, none⟩) hE (cell_lt c2)).trans f2; replace c0 := hE.cell c0; replace c1 := hE.cell c1; replace c2 := hE.cell c2; replace EX := EX.trans hE; clear hE)
      | (go_at_call 136; (with_reducible refine (HL1.out _).mono ?_); rintro e w' ⟨rfl, hE⟩; replace f0 := (Below.frozen (p := ⟨w.heap.size, 0, none⟩) hE (cell_lt c0)).trans f0; replace f1 := (Below.frozen (p := ⟨w.heap.size, 1, none⟩) hE (cell_lt c1)).trans f1; replace f2 := (Below.frozen (p := ⟨w.heap.size, 2, none⟩) hE (cell_lt c2)).trans f2; replace c0 := hE.cell c0; replace c1 := hE.cell c1; replace c2 := hE.cell c2; replace EX := EX.trans hE; clear hE)
      | (go_at_call 136; (with_reducible refine (HL2.out _).mono ?_); rintro e w' ⟨rfl, hE⟩; replace f0 := (Below.frozen (p := ⟨w.heap.size, 0, none⟩) hE (cell_lt c0)).trans f0; replace f1 := (Below.frozen (p := ⟨w.heap.size, 1, none⟩) hE (cell_lt c1)).trans f1; replace f2 := (Below.frozen (p := ⟨w.heap.size, 2, none⟩) hE (cell_lt c2)).trans f2; replace c0 := hE.cell c0; replace c1 := hE.cell c1; replace c2 := hE.cell c2; replace EX := EX.trans hE; clear hE))
      refine bodyPost_ret (v := .tuple #[.agg #[.bool false, .slice none 0 0, .slice none 0 0], .int .i64 11]) (by rw [results_cell_tmp1 rfl]; go_simp) rfl ?_
      exact ⟨_, by rw [HE.out]; rfl, ⟨_, _, _, _, _, _, _, rfl⟩, fun h => absurd (HE.out.symm.trans h) (by decide), extA⟩
  cases l2
  rotate_left
  · have HE : Hid (fracE t = 11) := HFE.out.trans (by rw [if_neg HNI.out, if_pos (.inr (of_decide_eq_true HB4.out.symm))])
    clear HFE HB1 HB2 HB3 HB4 HTN HS1 HS2 HNI
    go_enter Tryz.func120, Tryz.ntmps120
    cases f
    · have hl0 := HLOW.out rfl
      subst hl0
      go_wp2_with (first
      | (go_at_call 134; (with_reducible refine (HCut.out _ EX).mono ?_); rintro e w' ⟨rfl, hE⟩; replace f0 := (Below.frozen (p := ⟨w.heap.size, 0, none⟩) hE (cell_lt c0)).trans f0; replace f1 := (Below.frozen (p := ⟨w.heap.size, 1, none⟩) hE (cell_lt c1)).trans f1; replace f2 := (Below.frozen (p := ⟨w.heap.size, 2, none⟩) hE (cell_lt c2)).trans f2; replace c0 := hE.cell c0; replace c1 := hE.cell c1; replace c2 := hE.cell c2; replace EX := EX.trans hE; clear hE)
      | (go_at_call 135; (with_reducible refine (HI1.out _).mono ?_); rintro e w' ⟨rfl, hE⟩; replace f0 := (Below.frozen (p := ⟨w.heap.size, 0, none⟩) hE (cell_lt c0)).trans f0; replace f1 := (Below.frozen (p := ⟨w.heap.size, 1, none⟩) hE (cell_lt c1)).trans f1; replace f2 := (Below.frozen (p := ⟨w.heap.size, 2, none⟩) hE (cell_lt c2)).trans f2; replace c0 := hE.cell c0; replace c1 := hE.cell c1; replace c2 := hE.cell c2; replace EX := EX.trans hE; clear hE)
      | (go_at_call 135; (with_reducible refine (HI2.out _).mono ?_); rintro e w' ⟨rfl, hE⟩; replace f0 := (Below.frozen (p := ⟨w.heap.size, 0, none⟩) hE (cell_lt c0)).trans f0; replace f1 := (Below.frozen (p := ⟨w.heap.size, 1, none⟩) hE (cell_lt c1)).trans f1; replace f2 := (Below.frozen (p := ⟨w.heap.size, 2, none⟩) hE (cell_lt c2)).trans f2; replace c0 := hE.cell c0; replace c1 := hE.cell c1; replace c2 := hE.cell c2; replace EX := EX.trans hE; clear hE)
      | (go_at_call 136; (with_reducible refine (HL1.out _).mono ?_); rintro e w' ⟨rfl, hE⟩; replace f0 := (Below.frozen (p := ⟨w.heap.size, 0, none⟩) hE (cell_lt c0)).trans f0; replace f1 := (Below.frozen (p := ⟨w.heap.size, 1, none⟩) hE (cell_lt c1)).trans f1; replace f2 := (Below.frozen (p := ⟨w.heap.size, 2, none⟩) hE (cell_lt c2)).trans f2; replace c0 := hE.cell c0; replace c1 := hE.cell c1; replace c2 := hE.cell c2; replace EX := EX.trans hE; clear hE)
      | (go_at_call 136; (with_reducible refine (HL2.out _).mono ?_); rintro e w' ⟨rfl, hE⟩; replace f0 := (Below.frozen (p := ⟨w.heap.size, 0, none⟩) hE (cell_lt c0)).trans f0; replace f1 := (Below.frozen (p := ⟨w.heap.size, 1, none⟩) hE (cell_lt c1)).trans f1; replace f2 := (Below.frozen (p := ⟨w.heap.size, 2, none⟩) hE (cell_lt c2)).trans f2; replace c0 := hE.cell c0; replace c1 := hE.cell c1; replace c2 := hE.cell c2; replace EX := EX.trans hE; clear hE))
      refine bodyPost_ret (v := .tuple #[.agg #[.bool false, .slice none 0 0, .slice none 0 0], .int .i64 11]) (by rw [results_cell_tmp1 rfl]; go_simp) rfl ?_
      exact ⟨_, by rw [HE.out]; rfl, ⟨_, _, _, _, _, _, _, rfl⟩, fun h => absurd (HE.out.symm.trans h) (by decide), extA⟩
    · go_wp2_with (first
      | (go_at_call 134; (with_reducible refine (HCut.out _ EX).mono ?_); rintro e w' ⟨rfl, hE⟩; replace f0 := (Below.frozen (p := ⟨w.heap.size, 0, none⟩) hE (cell_lt c0)).trans f0; replace f1 := (Below.frozen (p := ⟨w.heap.size, 1, none⟩) hE (cell_lt c1)).trans f1; replace f2 := (Below.frozen (p := ⟨w.heap.size, 2, none⟩) hE (cell_lt c2)).trans f2; replace c0 := hE.cell c0; replace c1 := hE.cell c1; replace c2 := hE.cell c2; replace EX := EX.trans hE; clear hE)
      | (go_at_call 135; (with_reducible refine (HI1.out _).mono ?_); rintro e w' ⟨rfl, hE⟩; replace f0 := (Below.frozen (p := ⟨w.heap.size, 0, none⟩) hE (cell_lt c0)).trans f0; replace f1 := (Below.frozen (p := ⟨w.heap.size, 1, none⟩) hE (cell_lt c1)).trans f1; replace f2 := (Below.frozen (p := ⟨w.heap.size, 2, none⟩) hE (cell_lt c2)).trans f2; replace c0 := hE.cell c0; replace c1 := hE.cell c1; replace c2 := hE.cell c2; replace EX := EX.trans hE; clear hE)
      | (go_at_call 135; (with_reducible refine (HI2.out _).mono ?_); rintro e w' ⟨rfl, hE⟩; replace f0 := (Below.frozen (p := ⟨w.heap.size, 0, none⟩) hE (cell_lt c0)).trans f0; replace f1 := (Below.frozen (p := ⟨w.heap.size, 1, none⟩) hE (cell_lt c1)).trans f1; replace f2 := (Below.frozen (p := ⟨w.heap.size, 2, none⟩) hE (cell_lt c2)).trans f2; replace c0 := hE.cell c0; replace c1 := hE.cell c1; replace c2 := hE.cell c2; replace EX := EX.trans hE; clear hE)
      | (go_at_call 136; (with_reducible refine (HL1.out _).mono ?_); rintro e w' ⟨rfl, hE⟩; replace f0 := (Below.frozen (p := ⟨w.heap.size, 0, none⟩) hE (cell_lt c0)).trans f0; replace f1 := (Below.frozen (p := ⟨w.heap.size, 1, none⟩) hE (cell_lt c1)).trans f1; replace f2 := (Below.frozen (p := ⟨w.heap.size, 2, none⟩) hE (cell_lt c2)).trans f2; replace c0 := hE.cell c0; replace c1 := hE.cell c1; replace c2 := hE.cell c2; replace EX := EX.trans hE; clear hE)
      | (go_at_call 136; (with_reducible refine (HL2.out _).mono ?_); rintro e w' ⟨rfl, hE⟩; replace f0 := (Below.frozen (p := ⟨w.heap.size, 0, none⟩) hE (cell_lt c0)).trans f0; replace f1 := (Below.frozen (p := ⟨w.heap.size, 1, none⟩) hE (cell_lt c1)).trans f1; replace f2 := (Below.frozen (p := ⟨w.heap.size, 2, none⟩) hE (cell_lt c2)).trans f2; replace c0 := hE.cell c0; replace c1 := hE.cell c1; replace c2 := hE.cell c2; replace EX := EX.trans hE; clear hE))
      refine bodyPost_ret (v := .tuple #[.agg #[.bool false, .slice none 0 0, .slice none 0 0], .int .i64 11]) (by rw [results_cell_tmp1 rfl]; go_simp) rfl ?_
      exact ⟨_, by rw [HE.out]; rfl, ⟨_, _, _, _, _, _, _, rfl⟩, fun h => absurd (HE.out.symm.trans h) (by decide), extA⟩
  have HNL : Hid (¬ (60 < (bareS top).length ∨ 60 < (bareS low).length)) := fun h => h.elim (of_decide_eq_false (p := 60 < (bareS top).length) HB3.out.symm) (of_decide_eq_false (p := 60 < (bareS low).length) HB4.out.symm)
  have hFE2 := HFE.out
  rw [if_neg HNI.out, if_neg HNL.out] at hFE2
  have HFE2 := Lib.hid hFE2
  have hbl : (bareS top).length ≤ 60 ∧ (bareS low).length ≤ 60 := by have := HNL.out; omega
  have hD1 := HS1.out.1.1
  have hD2 := HS2.out.1.1
  have HSG1 := Lib.hid (fun W => signed_any top W hD1 (by omega))
  have HSG2 := Lib.hid (fun W => signed_any low W hD2 (by omega))
  have hlt : ∀ d : Txt, DigitL d → d.length ≤ 60 → (toB 1000000000 (decV d)).length ≤ 60 := fun d h1 h2 => toB_len (by omega) 60 (Nat.lt_of_lt_of_le (decV_lt h1) (Nat.le_trans (Nat.pow_le_pow_right (by omega) h2) (Nat.pow_le_pow_left (by omega) _)))
  have hn1 := hlt _ hD1 hbl.1
  have hn2 := hlt _ hD2 hbl.2
  have HNU : Hid (negS low = false → numOf t = (negS top, decV (bareS top), decV (bareS low))) := fun h => by rw [HTN.out, bare_pos h]
  have HZ0 : Hid (f = false → fracE t = 0 ∧ negS low = false) := fun h => by
    have hm : 47 ∉ t := fun e => by rw [HF.out, decide_eq_true e] at h; cases h
    rw [HFE2.out, if_pos hm]
    refine ⟨rfl, ?_⟩
    rw [HLOW.out h]; rfl
  have HZ1 : Hid (f = true → fracE t = if negS low = true then 3 else if decV (bareS low) ≤ 1 then 3 else if Nat.gcd (decV (bareS top)) (decV (bareS low)) ≠ 1 then 3 else 0) := fun h => by
    have hm : ¬ 47 ∉ t := fun e => by rw [HF.out, decide_eq_false e] at h; cases h
    rw [HFE2.out, if_neg hm]
    by_cases hb : negS low = true
    · rw [if_pos (.inl hb), if_pos hb]
    · have hbb := bare_pos (s := low) (by simpa using hb)
      rw [if_neg hb, hbb]
      by_cases h1 : decV low ≤ 1
      · rw [if_pos (.inr (.inl h1)), if_pos h1]
      · rw [if_neg h1]
        by_cases h2 : Nat.gcd (decV (bareS top)) (decV low) ≠ 1
        · rw [if_pos (.inr (.inr h2)), if_pos h2]
        · rw [if_neg h2, if_neg (fun h => h.elim hb (fun h => h.elim h1 h2))]
  clear hlt hD1 hD2 hFE2 HFE HB1 HB2 HB3 HB4 HNI HNL HTN HF HFE2 HS1 HS2
  generalize decV (bareS top) = n1 at *
  generalize decV (bareS low) = n2 at *
  generalize negS top = sg at *
  generalize negS low = sl at *
  have hn1 : (toB 1000000000 n1).length ≤ 60 := hn1
  go_enter Tryz.func120, Tryz.ntmps120
  cases f
  · have hl0 := HLOW.out rfl
    have HZ := Lib.hid (HZ0.out rfl)
    subst hl0
    go_wp2_with (first
      | (go_at_call 134; (with_reducible refine (HCut.out _ EX).mono ?_); rintro e w' ⟨rfl, hE⟩; replace f0 := (Below.frozen (p := ⟨w.heap.size, 0, none⟩) hE (cell_lt c0)).trans f0; replace f1 := (Below.frozen (p := ⟨w.heap.size, 1, none⟩) hE (cell_lt c1)).trans f1; replace f2 := (Below.frozen (p := ⟨w.heap.size, 2, none⟩) hE (cell_lt c2)).trans f2; replace c0 := hE.cell c0; replace c1 := hE.cell c1; replace c2 := hE.cell c2; replace EX := EX.trans hE; clear hE)
      | (go_at_call 135; (with_reducible refine (HI1.out _).mono ?_); rintro e w' ⟨rfl, hE⟩; replace f0 := (Below.frozen (p := ⟨w.heap.size, 0, none⟩) hE (cell_lt c0)).trans f0; replace f1 := (Below.frozen (p := ⟨w.heap.size, 1, none⟩) hE (cell_lt c1)).trans f1; replace f2 := (Below.frozen (p := ⟨w.heap.size, 2, none⟩) hE (cell_lt c2)).trans f2; replace c0 := hE.cell c0; replace c1 := hE.cell c1; replace c2 := hE.cell c2; replace EX := EX.trans hE; clear hE)
      | (go_at_call 135; (with_reducible refine (HI2.out _).mono ?_); rintro e w' ⟨rfl, hE⟩; replace f0 := (Below.frozen (p := ⟨w.heap.size, 0, none⟩) hE (cell_lt c0)).trans f0; replace f1 := (Below.frozen (p := ⟨w.heap.size, 1, none⟩) hE (cell_lt c1)).trans f1; replace f2 := (Below.frozen (p := ⟨w.heap.size, 2, none⟩) hE (cell_lt c2)).trans f2; replace c0 := hE.cell c0; replace c1 := hE.cell c1; replace c2 := hE.cell c2; replace EX := EX.trans hE; clear hE)
      | (go_at_call 136; (with_reducible refine (HL1.out _).mono ?_); rintro e w' ⟨rfl, hE⟩; replace f0 := (Below.frozen (p := ⟨w.heap.size, 0, none⟩) hE (cell_lt c0)).trans f0; replace f1 := (Below.frozen (p := ⟨w.heap.size, 1, none⟩) hE (cell_lt c1)).trans f1; replace f2 := (Below.frozen (p := ⟨w.heap.size, 2, none⟩) hE (cell_lt c2)).trans f2; replace c0 := hE.cell c0; replace c1 := hE.cell c1; replace c2 := hE.cell c2; replace EX := EX.trans hE; clear hE)
      | (go_at_call 136; (with_reducible refine (HL2.out _).mono ?_); rintro e w' ⟨rfl, hE⟩; replace f0 := (Below.frozen (p := ⟨w.heap.size, 0, none⟩) hE (cell_lt c0)).trans f0; replace f1 := (Below.frozen (p := ⟨w.heap.size, 1, none⟩) hE (cell_lt c1)).trans f1; replace f2 := (Below.frozen (p := ⟨w.heap.size, 2, none⟩) hE (cell_lt c2)).trans f2; replace c0 := hE.cell c0; replace c1 := hE.cell c1; replace c2 := hE.cell c2; replace EX := EX.trans hE; clear hE))
    have hz := cell_lt c0
    dsimp only at hz
    have EA : Ext w' (w'.alloc (.cells #[.bool false, .slice none 0 0, .slice none 0 0] 157)) := extA
    have X1 : Num3 w'.heap.size (w'.alloc (.cells #[.bool false, .slice none 0 0, .slice none 0 0] 157)) (.bool false) (.slice none 0 0) (.slice none 0 0) := ⟨by go_simp, by go_simp, by go_simp, by go_simp, by go_simp, by go_simp⟩
    have R1 : Num3 w.heap.size (w'.alloc (.cells #[.bool false, .slice none 0 0, .slice none 0 0] 157)) (.bool false) (.slice none 0 0) (.slice none 0 0) := (Num3.mk c0 c1 c2 f0 f1 f2).ext EA
    have E1 := EX.trans EA
    clear c0 c1 c2 f0 f1 f2 EA EX
    obtain ⟨xb, hxb⟩ : ∃ xb, xb = w'.heap.size := ⟨_, rfl⟩
    rw [← hxb] at X1 hz ⊢
    clear hxb
    generalize (w'.alloc (.cells #[.bool false, .slice none 0 0, .slice none 0 0] 157)) = W1 at X1 R1 E1 ⊢
    refine (HSG1.out _).mono ?_
    rintro e w2 ⟨ta, tc, rfl, hC1, hN1, hE⟩
    have hz1 : xb < W1.heap.size := cell_lt X1.c0
    have hN1x : ∀ p, ta = some p → p.block ≠ xb := fun p hp => by have := hN1 p hp; omega
    have hN1w : ∀ p, ta = some p → p.block ≠ w.heap.size := fun p hp => by have := hN1 p hp; omega
    replace X1 := X1.ext hE
    replace R1 := R1.ext hE
    replace E1 := E1.trans hE
    have hxw := cell_lt X1.c0
    dsimp only at hxw
    obtain ⟨x0, x1, x2, g0, g1, g2⟩ := X1
    have HC1 := Lib.hid hC1
    have HX1 := Lib.hid (Num3.mk x0 x1 x2 g0 g1 g2)
    have HR1 := Lib.hid R1
    clear hE hC1 HSG1 R1
    go_wp2_with fail
    have X2 : Num3 xb ((w2.setCell ⟨xb, 0, none⟩ (.bool sg)).setCell ⟨xb, 1, none⟩ (.slice ta (toB 1000000000 n1).length tc)) (.bool sg) (.slice ta (toB 1000000000 n1).length tc) (.slice none 0 0) := (HX1.out.set0 _).set1 _
    have R2 : Num3 w.heap.size ((w2.setCell ⟨xb, 0, none⟩ (.bool sg)).setCell ⟨xb, 1, none⟩ (.slice ta (toB 1000000000 n1).length tc)) (.bool false) (.slice none 0 0) (.slice none 0 0) := (HR1.out.other (by omega) _).other (by omega) _
    have E2 : Ext w ((w2.setCell ⟨xb, 0, none⟩ (.bool sg)).setCell ⟨xb, 1, none⟩ (.slice ta (toB 1000000000 n1).length tc)) := (E1.set (by omega) _).set (by omega) _
    have HC2 := Lib.hid ((HC1.out.set (c := xb) (o := 0) (v := .bool sg) hN1x).set (c := xb) (o := 1) (v := .slice ta (toB 1000000000 n1).length tc) hN1x)
    have HT := Lib.hid (And.intro hN1x hN1w)
    clear x0 x1 x2 g0 g1 g2 HX1 HR1 E1 HC1 hN1 hN1x hN1w hz1
    generalize ((w2.setCell ⟨xb, 0, none⟩ (.bool sg)).setCell ⟨xb, 1, none⟩ (.slice ta (toB 1000000000 n1).length tc)) = W2 at X2 R2 E2 HC2 ⊢
    refine (HSG2.out _).mono ?_
    rintro e w4 ⟨ba, bc, rfl, hC1, hN1, hE⟩
    have hz1 : xb < W2.heap.size := cell_lt X2.c0
    have hB1x : ∀ p, ba = some p → p.block ≠ xb := fun p hp => by have := hN1 p hp; omega
    have hB1w : ∀ p, ba = some p → p.block ≠ w.heap.size := fun p hp => by have := hN1 p hp; omega
    have HBT := Lib.hid (And.intro hB1x hB1w)
    have X4 := X2.ext hE
    have R4 := R2.ext hE
    have E4 := E2.trans hE
    have HC4 := Lib.hid (HC2.out.ext hE)
    have HD4 := Lib.hid hC1
    have hxw4 := cell_lt X4.c0
    dsimp only at hxw4
    clear hE hC1 hN1 hz1 hB1x hB1w X2 R2 E2 HC2 HSG2 hxw
    obtain ⟨x0, x1, x2, g0, g1, g2⟩ := X4
    obtain ⟨c0, c1, c2, f0, f1, f2⟩ := R4
    have hwx : w.heap.size ≠ xb := by omega
    have HC5 := Lib.hid (HC4.out.set (c := xb) (o := 2) (v := (.slice ba (toB 1000000000 n2).length bc)) HT.out.1)
    have HD5 := Lib.hid (HD4.out.set (c := xb) (o := 2) (v := (.slice ba (toB 1000000000 n2).length bc)) HBT.out.1)
    clear HC4 HD4 HZ0 HZ1
    go_wp2_with fail
    refine bodyPost_ret (v := .tuple #[.agg #[.bool sg, .slice ta (toB 1000000000 n1).length tc, (.slice ba (toB 1000000000 n2).length bc)], .int .i64 0]) (by rw [results_cell_tmp1 rfl]; go_simp) rfl ?_
    refine ⟨_, by rw [HZ.out.1]; rfl, ⟨_, _, _, _, _, _, _, rfl⟩, fun _ => ⟨ta, tc, ba, bc, by rw [HNU.out HZ.out.2], ?_, ?_⟩, extA⟩
    · rw [HNU.out HZ.out.2]
      exact ((HC5.out.set (c := w.heap.size) HT.out.2).set (c := w.heap.size) HT.out.2).set (c := w.heap.size) HT.out.2
    · rw [HNU.out HZ.out.2]
      exact ((HD5.out.set (c := w.heap.size) HBT.out.2).set (c := w.heap.size) HBT.out.2).set (c := w.heap.size) HBT.out.2
  · have HZ := Lib.hid (HZ1.out rfl)
    go_wp2_with (first
      | (go_at_call 134; (with_reducible refine (HCut.out _ EX).mono ?_); rintro e w' ⟨rfl, hE⟩; replace f0 := (Below.frozen (p := ⟨w.heap.size, 0, none⟩) hE (cell_lt c0)).trans f0; replace f1 := (Below.frozen (p := ⟨w.heap.size, 1, none⟩) hE (cell_lt c1)).trans f1; replace f2 := (Below.frozen (p := ⟨w.heap.size, 2, none⟩) hE (cell_lt c2)).trans f2; replace c0 := hE.cell c0; replace c1 := hE.cell c1; replace c2 := hE.cell c2; replace EX := EX.trans hE; clear hE)
      | (go_at_call 135; (with_reducible refine (HI1.out _).mono ?_); rintro e w' ⟨rfl, hE⟩; replace f0 := (Below.frozen (p := ⟨w.heap.size, 0, none⟩) hE (cell_lt c0)).trans f0; replace f1 := (Below.frozen (p := ⟨w.heap.size, 1, none⟩) hE (cell_lt c1)).trans f1; replace f2 := (Below.frozen (p := ⟨w.heap.size, 2, none⟩) hE (cell_lt c2)).trans f2; replace c0 := hE.cell c0; replace c1 := hE.cell c1; replace c2 := hE.cell c2; replace EX := EX.trans hE; clear hE)
      | (go_at_call 135; (with_reducible refine (HI2.out _).mono ?_); rintro e w' ⟨rfl, hE⟩; replace f0 := (Below.frozen (p := ⟨w.heap.size, 0, none⟩) hE (cell_lt c0)).trans f0; replace f1 := (Below.frozen (p := ⟨w.heap.size, 1, none⟩) hE (cell_lt c1)).trans f1; replace f2 := (Below.frozen (p := ⟨w.heap.size, 2, none⟩) hE (cell_lt c2)).trans f2; replace c0 := hE.cell c0; replace c1 := hE.cell c1; replace c2 := hE.cell c2; replace EX := EX.trans hE; clear hE)
      | (go_at_call 136; (with_reducible refine (HL1.out _).mono ?_); rintro e w' ⟨rfl, hE⟩; replace f0 := (Below.frozen (p := ⟨w.heap.size, 0, none⟩) hE (cell_lt c0)).trans f0; replace f1 := (Below.frozen (p := ⟨w.heap.size, 1, none⟩) hE (cell_lt c1)).trans f1; replace f2 := (Below.frozen (p := ⟨w.heap.size, 2, none⟩) hE (cell_lt c2)).trans f2; replace c0 := hE.cell c0; replace c1 := hE.cell c1; replace c2 := hE.cell c2; replace EX := EX.trans hE; clear hE)
      | (go_at_call 136; (with_reducible refine (HL2.out _).mono ?_); rintro e w' ⟨rfl, hE⟩; replace f0 := (Below.frozen (p := ⟨w.heap.size, 0, none⟩) hE (cell_lt c0)).trans f0; replace f1 := (Below.frozen (p := ⟨w.heap.size, 1, none⟩) hE (cell_lt c1)).trans f1; replace f2 := (Below.frozen (p := ⟨w.heap.size, 2, none⟩) hE (cell_lt c2)).trans f2; replace c0 := hE.cell c0; replace c1 := hE.cell c1; replace c2 := hE.cell c2; replace EX := EX.trans hE; clear hE))
    have hz := cell_lt c0
    dsimp only at hz
    have EA : Ext w' (w'.alloc (.cells #[.bool false, .slice none 0 0, .slice none 0 0] 157)) := extA
    have X1 : Num3 w'.heap.size (w'.alloc (.cells #[.bool false, .slice none 0 0, .slice none 0 0] 157)) (.bool false) (.slice none 0 0) (.slice none 0 0) := ⟨by go_simp, by go_simp, by go_simp, by go_simp, by go_simp, by go_simp⟩
    have R1 : Num3 w.heap.size (w'.alloc (.cells #[.bool false, .slice none 0 0, .slice none 0 0] 157)) (.bool false) (.slice none 0 0) (.slice none 0 0) := (Num3.mk c0 c1 c2 f0 f1 f2).ext EA
    have E1 := EX.trans EA
    clear c0 c1 c2 f0 f1 f2 EA EX
    obtain ⟨xb, hxb⟩ : ∃ xb, xb = w'.heap.size := ⟨_, rfl⟩
    rw [← hxb] at X1 hz ⊢
    clear hxb
    generalize (w'.alloc (.cells #[.bool false, .slice none 0 0, .slice none 0 0] 157)) = W1 at X1 R1 E1 ⊢
    refine (HSG1.out _).mono ?_
    rintro e w2 ⟨ta, tc, rfl, hC1, hN1, hE⟩
    have hz1 : xb < W1.heap.size := cell_lt X1.c0
    have hN1x : ∀ p, ta = some p → p.block ≠ xb := fun p hp => by have := hN1 p hp; omega
    have hN1w : ∀ p, ta = some p → p.block ≠ w.heap.size := fun p hp => by have := hN1 p hp; omega
    replace X1 := X1.ext hE
    replace R1 := R1.ext hE
    replace E1 := E1.trans hE
    have hxw := cell_lt X1.c0
    dsimp only at hxw
    obtain ⟨x0, x1, x2, g0, g1, g2⟩ := X1
    have HC1 := Lib.hid hC1
    have HX1 := Lib.hid (Num3.mk x0 x1 x2 g0 g1 g2)
    have HR1 := Lib.hid R1
    clear hE hC1 HSG1 R1
    go_wp2_with fail
    have X2 : Num3 xb ((w2.setCell ⟨xb, 0, none⟩ (.bool sg)).setCell ⟨xb, 1, none⟩ (.slice ta (toB 1000000000 n1).length tc)) (.bool sg) (.slice ta (toB 1000000000 n1).length tc) (.slice none 0 0) := (HX1.out.set0 _).set1 _
    have R2 : Num3 w.heap.size ((w2.setCell ⟨xb, 0, none⟩ (.bool sg)).setCell ⟨xb, 1, none⟩ (.slice ta (toB 1000000000 n1).length tc)) (.bool false) (.slice none 0 0) (.slice none 0 0) := (HR1.out.other (by omega) _).other (by omega) _
    have E2 : Ext w ((w2.setCell ⟨xb, 0, none⟩ (.bool sg)).setCell ⟨xb, 1, none⟩ (.slice ta (toB 1000000000 n1).length tc)) := (E1.set (by omega) _).set (by omega) _
    have HC2 := Lib.hid ((HC1.out.set (c := xb) (o := 0) (v := .bool sg) hN1x).set (c := xb) (o := 1) (v := .slice ta (toB 1000000000 n1).length tc) hN1x)
    have HT := Lib.hid (And.intro hN1x hN1w)
    clear x0 x1 x2 g0 g1 g2 HX1 HR1 E1 HC1 hN1 hN1x hN1w hz1
    generalize ((w2.setCell ⟨xb, 0, none⟩ (.bool sg)).setCell ⟨xb, 1, none⟩ (.slice ta (toB 1000000000 n1).length tc)) = W2 at X2 R2 E2 HC2 ⊢
    refine (HSG2.out _).mono ?_
    rintro e w4 ⟨ba, bc, rfl, hC1, hN1, hE⟩
    have hz1 : xb < W2.heap.size := cell_lt X2.c0
    have hB1x : ∀ p, ba = some p → p.block ≠ xb := fun p hp => by have := hN1 p hp; omega
    have hB1w : ∀ p, ba = some p → p.block ≠ w.heap.size := fun p hp => by have := hN1 p hp; omega
    have HBT := Lib.hid (And.intro hB1x hB1w)
    have X4 := X2.ext hE
    have R4 := R2.ext hE
    have E4 := E2.trans hE
    have HC4 := Lib.hid (HC2.out.ext hE)
    have HD4 := Lib.hid hC1
    have hxw4 := cell_lt X4.c0
    dsimp only at hxw4
    clear hE hC1 hN1 hz1 hB1x hB1w X2 R2 E2 HC2 HSG2 hxw
    have hwx : w.heap.size ≠ xb := by omega
    clear HZ0 HZ1
    cases sl
    rotate_left
    · have HE : Hid (fracE t = 3) := HZ.out.trans (by rw [if_pos rfl])
      obtain ⟨c0, c1, c2, f0, f1, f2⟩ := R4
      obtain ⟨x0, x1, x2, g0, g1, g2⟩ := X4
      clear HC4 HD4 HZ
      go_wp2_with fail
      refine bodyPost_ret (v := .tuple #[.agg #[.bool false, .slice none 0 0, .slice none 0 0], .int .i64 3]) (by rw [results_cell_tmp1 rfl]; go_simp) rfl ?_
      exact ⟨_, by rw [HE.out]; rfl, ⟨_, _, _, _, _, _, _, rfl⟩, fun h => absurd (HE.out.symm.trans h) (by decide), extA⟩
    · have HNM := Lib.hid (HNU.out rfl)
      have hZ := HZ.out
      rw [if_neg (by simp)] at hZ
      replace HZ := Lib.hid hZ
      clear hZ HNU
      have EV : Ext (w4.setCell ⟨xb, 2, none⟩ (.slice ba (toB 1000000000 n2).length bc)) ((w4.setCell ⟨xb, 2, none⟩ (.slice ba (toB 1000000000 n2).length bc)).alloc (.cells #[.int .u64 1] 153)) := extA
      have X : Num3 xb ((w4.setCell ⟨xb, 2, none⟩ (.slice ba (toB 1000000000 n2).length bc)).alloc (.cells #[.int .u64 1] 153)) (.bool sg) (.slice ta (toB 1000000000 n1).length tc) (.slice ba (toB 1000000000 n2).length bc) := (X4.set2 _).ext EV
      have R : Num3 w.heap.size ((w4.setCell ⟨xb, 2, none⟩ (.slice ba (toB 1000000000 n2).length bc)).alloc (.cells #[.int .u64 1] 153)) (.bool false) (.slice none 0 0) (.slice none 0 0) := (R4.other (by omega) _).ext EV
      have E : Ext w ((w4.setCell ⟨xb, 2, none⟩ (.slice ba (toB 1000000000 n2).length bc)).alloc (.cells #[.int .u64 1] 153)) := (E4.set (by omega) _).trans EV
      have HC := Lib.hid ((HC4.out.set (c := xb) (o := 2) (v := (.slice ba (toB 1000000000 n2).length bc)) HT.out.1).ext EV)
      have HD := Lib.hid ((HD4.out.set (c := xb) (o := 2) (v := (.slice ba (toB 1000000000 n2).length bc)) HBT.out.1).ext EV)
      have HL := Lib.hid (cells_lit (w4.setCell ⟨xb, 2, none⟩ (.slice ba (toB 1000000000 n2).length bc)) 153)
      obtain ⟨x0, x1, x2, g0, g1, g2⟩ := X4
      clear R4 E4 HC4 HD4 EV
      go_wp2_with fail
      have hs5 : (w4.setCell ⟨xb, 2, none⟩ (.slice ba (toB 1000000000 n2).length bc)).heap.size = w4.heap.size := by simp [World.setCell]
      rw [hs5] at HL
      generalize ((w4.setCell ⟨xb, 2, none⟩ (.slice ba (toB 1000000000 n2).length bc)).alloc (.cells #[.int .u64 1] 153)) = w6 at X R E HC HD HL ⊢
      clear x0 x1 x2 g0 g1 g2 hs5
      refine (compare1_any n2 _ ba bc w4.heap.size _ rfl (by omega) HD.out HL.out).mono ?_
      rintro e w7 ⟨rfl, hE⟩
      replace X := X.ext hE
      replace R := R.ext hE
      replace E := E.trans hE
      replace HC := Lib.hid (HC.out.ext hE)
      replace HD := Lib.hid (HD.out.ext hE)
      clear hE
      have hxw7 := cell_lt X.c0
      dsimp only at hxw7
      by_cases hle : n2 ≤ 1
      · have HE : Hid (fracE t = 3) := HZ.out.trans (by rw [if_pos hle])
        obtain ⟨z, hz, hz0⟩ : ∃ z, ordN n2 1 = z ∧ z ≤ 0 := ⟨_, rfl, ordN_le.2 hle⟩
        rw [hz]
        obtain ⟨c0, c1, c2, f0, f1, f2⟩ := R
        obtain ⟨x0, x1, x2, g0, g1, g2⟩ := X
        clear hz hle HC HD HL HZ HNM
        go_wp2_with fail
        refine bodyPost_ret (v := .tuple #[.agg #[.bool false, .slice none 0 0, .slice none 0 0], .int .i64 3]) (by rw [results_cell_tmp1 rfl]; go_simp) rfl ?_
        exact ⟨_, by rw [HE.out]; rfl, ⟨_, _, _, _, _, _, _, rfl⟩, fun h => absurd (HE.out.symm.trans h) (by decide), extA⟩
      · have hZ := HZ.out
        rw [if_neg hle] at hZ
        replace HZ := Lib.hid hZ
        obtain ⟨z, hz, hz0⟩ : ∃ z, ordN n2 1 = z ∧ ¬ z ≤ 0 := ⟨_, rfl, fun h => hle (ordN_le.1 h)⟩
        rw [hz]
        obtain ⟨g, hg⟩ : ∃ g, g = Nat.gcd n1 n2 := ⟨_, rfl⟩
        have hgl : (toB 1000000000 g).length ≤ 101 := len_le (by
          have h1 : Nat.gcd n1 n2 ≤ n2 := Nat.gcd_le_right _ (by omega)
          have h2 := lt_of_len (x := n2) rfl (by omega)
          have h3 : (1000000000 : Nat) ^ 100 ≤ 1000000000 ^ 101 := Nat.pow_le_pow_right (by omega) (by omega)
          omega)
        have hDV := (divisor_any n1 n2 _ _ ta ba tc bc w7 rfl rfl (by omega) (by omega) (by omega) HC.out HD.out).mono fun _ _ h => h.newB
        rw [← hg] at hDV
        have hZ2 : (g = 1 → fracE t = 0) ∧ (g ≠ 1 → fracE t = 3) := ⟨fun h => by rw [hZ, if_neg (by rw [hg] at h; simpa using h)], fun h => by rw [hZ, if_pos (by rw [hg] at h; exact h)]⟩
        have HZ2 := Lib.hid hZ2
        have HDV := Lib.hid hDV
        clear hz hZ hZ2 HZ HL hDV hg
        obtain ⟨x0, x1, x2, g0, g1, g2⟩ := X
        go_wp2_with fail
        have X := Num3.mk x0 x1 x2 g0 g1 g2
        clear x0 x1 x2 g0 g1 g2
        refine HDV.out.mono ?_
        rintro e w8 ⟨ga, gc, rfl, hgC, _, hE⟩
        replace X := X.ext hE
        replace R := R.ext hE
        replace E := E.trans hE
        replace HC := Lib.hid (HC.out.ext hE)
        replace HD := Lib.hid (HD.out.ext hE)
        clear hE
        have HGC := Lib.hid hgC
        clear hgC HDV
        have hE : Ext w8 (w8.alloc (.cells #[.int .u64 1] 153)) := extA
        replace X := X.ext hE
        replace R := R.ext hE
        replace E := E.trans hE
        replace HC := Lib.hid (HC.out.ext hE)
        replace HD := Lib.hid (HD.out.ext hE)
        have HG8 := Lib.hid (HGC.out.ext hE)
        have HL := Lib.hid (cells_lit w8 153)
        clear hE HGC
        go_wp2_with fail
        generalize (w8.alloc (.cells #[.int .u64 1] 153)) = w9 at X R E HC HD HL HG8 ⊢
        refine (compare1_any g _ ga gc w8.heap.size _ rfl (by omega) HG8.out HL.out).mono ?_
        rintro e w10 ⟨rfl, hE⟩
        replace X := X.ext hE
        replace R := R.ext hE
        replace E := E.trans hE
        replace HC := Lib.hid (HC.out.ext hE)
        replace HD := Lib.hid (HD.out.ext hE)
        clear hE
        clear HG8 HL
        obtain ⟨c0, c1, c2, f0, f1, f2⟩ := R
        obtain ⟨x0, x1, x2, g0, g1, g2⟩ := X
        by_cases h1 : g = 1
        · have HE : Hid (fracE t = 0) := HZ2.out.1 h1
          have hz1 : ordN g 1 = 0 := ordN_zero.2 h1
          rw [hz1]
          clear hz1 h1 HZ2
          go_wp2_with fail
          refine bodyPost_ret (v := .tuple #[.agg #[.bool sg, .slice ta (toB 1000000000 n1).length tc, (.slice ba (toB 1000000000 n2).length bc)], .int .i64 0]) (by rw [results_cell_tmp1 rfl]; go_simp) rfl ?_
          refine ⟨_, by rw [HE.out]; rfl, ⟨_, _, _, _, _, _, _, rfl⟩, fun _ => ⟨ta, tc, ba, bc, by rw [HNM.out], ?_, ?_⟩, extA⟩
          · rw [HNM.out]
            exact ((HC.out.set (c := w.heap.size) HT.out.2).set (c := w.heap.size) HT.out.2).set (c := w.heap.size) HT.out.2
          · rw [HNM.out]
            exact ((HD.out.set (c := w.heap.size) HBT.out.2).set (c := w.heap.size) HBT.out.2).set (c := w.heap.size) HBT.out.2
        · have HE : Hid (fracE t = 3) := HZ2.out.2 h1
          obtain ⟨z, hz, hz0⟩ : ∃ z, ordN g 1 = z ∧ (z != 0) = true := ⟨_, rfl, by rw [bne_iff_ne]; exact fun h => h1 (ordN_zero.1 h)⟩
          rw [hz]
          clear hz h1 HZ2
          go_wp2_with fail
          refine bodyPost_ret (v := .tuple #[.agg #[.bool false, .slice none 0 0, .slice none 0 0], .int .i64 3]) (by rw [results_cell_tmp1 rfl]; go_simp) rfl ?_
          exact ⟨_, by rw [HE.out]; rfl, ⟨_, _, _, _, _, _, _, rfl⟩, fun h => absurd (HE.out.symm.trans h) (by decide), extA⟩
end Go.Proofs.YtlhpfhnbeagnaaaGreatDoor
namespace Go.Proofs.YtlhpfhnbeagnaaaGreatDoor
open Go.RowKit
open Go.Lib (decDigits)
end Go.Proofs.YtlhpfhnbeagnaaaGreatDoor
namespace Go.Proofs.YtlhpfhnbeagnaaaGreatDoor
open Go.RowKit
set_option maxHeartbeats 2000000 in
theorem opposite_any (x : Num) (v : Value) (w : World) (hv : NumV w v x) :
    Calls Tryz.prog 123 #[v] w fun e w' => ∃ u, e = .returned u ∧ NumV w' u (negN x) ∧ Ext w w' := by
  obtain ⟨ta, tc, ba, bc, rfl, h1, h2⟩ := hv
  obtain ⟨s, t, d⟩ := x
  have H1 := Lib.hid h1
  have H2 := Lib.hid h2
  dsimp only at H1 H2 ⊢
  clear h1 h2
  have HN : Hid (∀ W, Ext w W → NumV W (.agg #[.bool (!s), .slice ta (toB 1000000000 t).length tc, .slice ba (toB 1000000000 d).length bc]) (negN (s, t, d))) := fun W hW => ⟨ta, tc, ba, bc, rfl, H1.out.ext hW, H2.out.ext hW⟩
  generalize toB 1000000000 t = lt at *
  generalize toB 1000000000 d = ld at *
  go_enter Tryz.func123, Tryz.ntmps123
  go_wp2
  refine bodyPost_ret (v := .agg #[.bool (!s), .slice ta lt.length tc, .slice ba ld.length bc]) (by rw [results_cell1 rfl]; go_simp) rfl ?_
  have key : ∀ W, Ext w W → ∃ u, Ending.returned (.agg #[.bool (!s), .slice ta lt.length tc, .slice ba ld.length bc]) = .returned u ∧ NumV W u (negN (s, t, d)) ∧ Ext w W := fun W E => ⟨_, rfl, HN.out W E, E⟩
  exact key _ extA
def signN (x : Num) : Int := if x.2.1 = 0 then 0 else if x.1 then -1 else 1
set_option maxHeartbeats 2000000 in
theorem sign_any (x : Num) (v : Value) (w : World) (hv : NumV w v x) :
    Calls Tryz.prog 121 #[v] w fun e w' => e = .returned (.int .i64 (signN x)) ∧ Ext w w' := by
  obtain ⟨ta, tc, ba, bc, rfl, h1, h2⟩ := hv
  obtain ⟨s, t, d⟩ := x
  clear h1 h2
  dsimp only
  by_cases h0 : t = 0
  · have hl := len_zero h0
    have HS : Hid (signN (s, t, d) = 0) := by show _ = _; unfold signN; rw [if_pos h0]
    generalize (toB 1000000000 t).length = lt at *
    subst hl
    clear h0
    go_enter Tryz.func121, Tryz.ntmps121
    go_wp2
    go_ret
    exact ⟨ret_int HS.out.symm, extA⟩
  · have hl := len_pos h0
    have hl0 : (((toB 1000000000 t).length : Int) == 0) = false := by rw [beq_eq_false_iff_ne]; omega
    generalize (toB 1000000000 t).length = lt at *
    cases s
    · have HS : Hid (signN (false, t, d) = 1) := by show _ = _; unfold signN; rw [if_neg h0]; rfl
      clear h0
      go_enter Tryz.func121, Tryz.ntmps121
      go_wp2
      go_ret
      exact ⟨ret_int HS.out.symm, extA⟩
    · have HS : Hid (signN (true, t, d) = -1) := by show _ = _; unfold signN; rw [if_neg h0]; rfl
      clear h0
      go_enter Tryz.func121, Tryz.ntmps121
      go_wp2
      go_ret
      exact ⟨ret_int HS.out.symm, extA⟩
theorem CellsN.set2 {k : IntKind} {A : World} {a : Option Addr} {l : List Nat} (h : CellsN k A a l) {c o : Nat} {v : Value} (hn : 0 < l.length → ∀ p, a = some p → p.block ≠ c) : CellsN k (A.setCell ⟨c, o, none⟩ v) a l := fun i hi => by
  obtain ⟨b, off, h1, h2⟩ := h i hi
  refine ⟨b, off, h1, ?_⟩
  have := hn (by omega) _ h1
  rw [World.cell?_setCell_other _ _ _ _ (fun h => by simp only [Addr.mk.injEq] at h; exact this h.1.symm)]
  exact h2
theorem CellsN.lt {k : IntKind} {A : World} {a : Option Addr} {l : List Nat} (h : CellsN k A a l) (hl : 0 < l.length) : ∀ p, a = some p → p.block < A.heap.size := fun p hp => by
  obtain ⟨b, off, h1, h2⟩ := h 0 hl
  rw [hp] at h1
  cases h1
  exact cell_lt h2
theorem mul_len {x y m n : Nat} (hx : (toB 1000000000 x).length ≤ m) (hy : (toB 1000000000 y).length ≤ n) : (toB 1000000000 (x * y)).length ≤ m + n := by
  have lt : ∀ {z k : Nat}, (toB 1000000000 z).length ≤ k → z < 1000000000 ^ k := fun {z k} h => by
    have h1 := valB_lt (okB_toB (B := 1000000000) (by omega) z)
    rw [valB_toB (by omega)] at h1
    exact Nat.lt_of_lt_of_le h1 (Nat.pow_le_pow_right (by omega) h)
  refine toB_len (by omega) _ ?_
  rw [Nat.pow_add]
  exact Nat.mul_lt_mul'' (lt hx) (lt hy)
def NewN (n : Nat) (v : Value) : Prop := ∀ (s : Bool) ta (tn tc : Nat) ba (bn bc : Nat), v = .agg #[.bool s, .slice ta tn tc, .slice ba bn bc] → (0 < tn → ∀ p, ta = some p → n ≤ p.block) ∧ (0 < bn → ∀ p, ba = some p → n ≤ p.block)
theorem newN_mk {n : Nat} {s : Bool} {ta : Option Addr} {tn tc : Nat} {ba : Option Addr} {bn bc : Nat} (h1 : 0 < tn → ∀ p, ta = some p → n ≤ p.block) (h2 : 0 < bn → ∀ p, ba = some p → n ≤ p.block) : NewN n (.agg #[.bool s, .slice ta tn tc, .slice ba bn bc]) := by
  intro s' ta' tn' tc' ba' bn' bc' e
  cases e
  exact ⟨h1, h2⟩
theorem NumV.set {w : World} {v : Value} {x : Num} (h : NumV w v x) {n c o : Nat} {u : Value} (hn : NewN n v) (hc : c < n) : NumV (w.setCell ⟨c, o, none⟩ u) v x := by
  obtain ⟨ta, tc, ba, bc, rfl, h1, h2⟩ := h
  obtain ⟨k1, k2⟩ := hn _ _ _ _ _ _ _ rfl
  exact ⟨ta, tc, ba, bc, rfl, h1.set2 (fun hl p hp => by have := k1 hl p hp; omega), h2.set2 (fun hl p hp => by have := k2 hl p hp; omega)⟩
def LenN (k : Nat) (x : Num) : Prop := (toB 1000000000 x.2.1).length ≤ k ∧ (toB 1000000000 x.2.2).length ≤ k
set_option maxHeartbeats 8000000 in
set_option maxRecDepth 100000 in
theorem sum_any (x y : Num) (v u : Value) (w : World) (hv : NumV w v x) (hu : NumV w u y) (hx : LenN 40 x) (hy : LenN 40 y) :
    Calls Tryz.prog 122 #[v, u] w fun e w' => ∃ z, e = .returned z ∧ NumV w' z (sumN x y) ∧ NewN w.heap.size z ∧ Ext w w' := by
  obtain ⟨ta, tc, ba, bc, rfl, h1, h2⟩ := hv
  obtain ⟨ua, uc, va, vc, rfl, h3, h4⟩ := hu
  obtain ⟨s, t, d⟩ := x
  obtain ⟨r, p, q⟩ := y
  obtain ⟨l1, l2⟩ := hx
  obtain ⟨l3, l4⟩ := hy
  dsimp only at h1 h2 h3 h4 l1 l2 l3 l4 ⊢
  have m1 := mul_len l1 l4
  have m2 := mul_len l3 l2
  have m3 := mul_len l2 l4
  have HT1 := Lib.hid (fun W (hW : Ext w W) => (times_any t q _ _ ta va tc vc W rfl rfl (by omega) (by omega) (h1.ext hW) (h4.ext hW)).mono fun _ _ h => h.newB)
  have HT2 := Lib.hid (fun W (hW : Ext w W) => (times_any p d _ _ ua ba uc bc W rfl rfl (by omega) (by omega) (h3.ext hW) (h2.ext hW)).mono fun _ _ h => h.newB)
  have HT3 := Lib.hid (fun W (hW : Ext w W) => (times_any d q _ _ ba va bc vc W rfl rfl (by omega) (by omega) (h2.ext hW) (h4.ext hW)).mono fun _ _ h => h.newB)
  have HSN := Lib.hid (show sumN (s, t, d) (r, p, q) = if s = r then (s, t * q + p * d, d * q) else if p * d ≤ t * q then (s, t * q - p * d, d * q) else (r, p * d - t * q, d * q) from rfl)
  generalize sumN (s, t, d) (r, p, q) = SN at *
  generalize t * q = X1 at *
  generalize p * d = X2 at *
  generalize d * q = X3 at *
  clear h1 h2 h3 h4
  have E : Ext w (((w.alloc (.cells #[.bool s, (.slice ta (toB 1000000000 t).length tc), (.slice ba (toB 1000000000 d).length bc)] 157)).alloc (.cells #[.bool r, (.slice ua (toB 1000000000 p).length uc), (.slice va (toB 1000000000 q).length vc)] 157)).alloc (.cells #[.bool false, .slice none 0 0, .slice none 0 0] 157)) := extA
  have A : Num3 w.heap.size (((w.alloc (.cells #[.bool s, (.slice ta (toB 1000000000 t).length tc), (.slice ba (toB 1000000000 d).length bc)] 157)).alloc (.cells #[.bool r, (.slice ua (toB 1000000000 p).length uc), (.slice va (toB 1000000000 q).length vc)] 157)).alloc (.cells #[.bool false, .slice none 0 0, .slice none 0 0] 157)) (.bool s) (.slice ta (toB 1000000000 t).length tc) (.slice ba (toB 1000000000 d).length bc) := ⟨by go_simp, by go_simp, by go_simp, by go_simp, by go_simp, by go_simp⟩
  have B : Num3 (w.heap.size + 1) (((w.alloc (.cells #[.bool s, (.slice ta (toB 1000000000 t).length tc), (.slice ba (toB 1000000000 d).length bc)] 157)).alloc (.cells #[.bool r, (.slice ua (toB 1000000000 p).length uc), (.slice va (toB 1000000000 q).length vc)] 157)).alloc (.cells #[.bool false, .slice none 0 0, .slice none 0 0] 157)) (.bool r) (.slice ua (toB 1000000000 p).length uc) (.slice va (toB 1000000000 q).length vc) := ⟨by go_simp, by go_simp, by go_simp, by go_simp, by go_simp, by go_simp⟩
  have R : Num3 (w.heap.size + 1 + 1) (((w.alloc (.cells #[.bool s, (.slice ta (toB 1000000000 t).length tc), (.slice ba (toB 1000000000 d).length bc)] 157)).alloc (.cells #[.bool r, (.slice ua (toB 1000000000 p).length uc), (.slice va (toB 1000000000 q).length vc)] 157)).alloc (.cells #[.bool false, .slice none 0 0, .slice none 0 0] 157)) (.bool false) (.slice none 0 0) (.slice none 0 0) := ⟨by go_simp, by go_simp, by go_simp, by go_simp, by go_simp, by go_simp⟩
  go_enter Tryz.func122, Tryz.ntmps122
  go_wp2_with fail
  generalize (((w.alloc (.cells #[.bool s, (.slice ta (toB 1000000000 t).length tc), (.slice ba (toB 1000000000 d).length bc)] 157)).alloc (.cells #[.bool r, (.slice ua (toB 1000000000 p).length uc), (.slice va (toB 1000000000 q).length vc)] 157)).alloc (.cells #[.bool false, .slice none 0 0, .slice none 0 0] 157)) = W at E A B R ⊢
  have hdr : Ext W W.drew := extA
  replace A := A.ext hdr
  replace B := B.ext hdr
  replace R := R.ext hdr
  replace E := E.trans hdr
  have hS : W.drew.cell? ⟨w.heap.size, 1, none⟩ = some (.slice ta (toB 1000000000 t).length tc) ∧ W.drew.cell? ⟨w.heap.size + 1, 2, none⟩ = some (.slice va (toB 1000000000 q).length vc) ∧ W.drew.cell? ⟨w.heap.size + 1, 1, none⟩ = some (.slice ua (toB 1000000000 p).length uc) ∧ W.drew.cell? ⟨w.heap.size, 2, none⟩ = some (.slice ba (toB 1000000000 d).length bc) := ⟨A.c1, B.c2, B.c1, A.c2⟩
  refine wp_region_heldE 99 (fun w' => w'.cell? ⟨w.heap.size, 1, none⟩ = some (.slice ta (toB 1000000000 t).length tc) ∧ w'.cell? ⟨w.heap.size + 1, 2, none⟩ = some (.slice va (toB 1000000000 q).length vc) ∧ w'.cell? ⟨w.heap.size + 1, 1, none⟩ = some (.slice ua (toB 1000000000 p).length uc) ∧ w'.cell? ⟨w.heap.size, 2, none⟩ = some (.slice ba (toB 1000000000 d).length bc)) (by kernel_rfl) ?_
  clear hdr
  generalize W.drew = W at E A B R hS ⊢
  ((refine eTk 0 ?_); (refine eTk 1 ?_); (refine eTk 2 ?_); (refine eTk 3 ?_); (refine eTk 5 ?_); (refine eTk 6 ?_); (refine eTk 7 ?_); (refine eTk 8 ?_))
  (refine wpAnyE_one (i := 4) (o := ?_) ?_ (by kernel_rfl) (fun K hK => ?_); rotate_left; (focus ((simp only [List.getElem?_toArray, List.getElem?_cons_succ, List.getElem?_cons_zero]; exact rfl))); go_simp; go_at_call 140; refine (HT1.out _ E).mono ?_; rintro e w1 ⟨xa, xc, rfl, hx, hxn, hE⟩; go_wp2_with fail; refine hK.out _ _ ?_ (fun hHeld => ?_); rotate_left; clear hK K; (try simp only [Act.put, List.setIfInBounds_toArray, List.set_cons_zero, List.set_cons_succ]))
  rotate_left
  · exact ⟨hE.cell hS.1, hE.cell hS.2.1, hE.cell hS.2.2.1, hE.cell hS.2.2.2⟩
  have hS1 := And.intro (hE.cell hS.1) (And.intro (hE.cell hS.2.1) (And.intro (hE.cell hS.2.2.1) (hE.cell hS.2.2.2)))
  replace A := A.ext hE
  replace B := B.ext hE
  replace R := R.ext hE
  replace E := E.trans hE
  have HX := Lib.hid hx
  clear hS hE hx hxn hHeld
  (refine wpAnyE_one (i := 9) (o := ?_) ?_ (by kernel_rfl) (fun K hK => ?_); rotate_left; (focus ((simp only [List.getElem?_toArray, List.getElem?_cons_succ, List.getElem?_cons_zero]; exact rfl))); go_simp; go_at_call 140; refine (HT2.out _ E).mono ?_; rintro e w2 ⟨ya, yc, rfl, hy, hyn, hE⟩; go_wp2_with fail; refine hK.out _ _ ?_ (fun hHeld => ?_); rotate_left; clear hK K; (try simp only [Act.put, List.setIfInBounds_toArray, List.set_cons_zero, List.set_cons_succ]))
  rotate_left
  · exact ⟨hE.cell hS1.1, hE.cell hS1.2.1, hE.cell hS1.2.2.1, hE.cell hS1.2.2.2⟩
  replace A := A.ext hE
  replace B := B.ext hE
  replace R := R.ext hE
  replace E := E.trans hE
  replace HX := Lib.hid (HX.out.ext hE)
  have HY := Lib.hid hy
  clear hS1 hE hy hyn
  ((refine eTk 10 ?_); (refine eTk 11 ?_))
  refine wpAnyE_done (by kernel_rfl) ?_ _
  clear hHeld
  go_wp2_with fail
  go_cut [7] (fun n wx => ∃ nb ma mc, n = .pointer (some ⟨nb, 0, none⟩) ∧ w.heap.size + 1 + 1 < nb ∧ Hid (Num3 nb wx (.bool s) (.slice none 0 0) (.slice ma (toB 1000000000 X3).length mc)) ∧ Hid (CellsN .u64 wx ma (toB 1000000000 X3)) ∧ Hid (0 < (toB 1000000000 X3).length → ∀ z, ma = some z → z.block ≠ nb ∧ w.heap.size + 1 + 1 < z.block) ∧ Ext w2 wx)
  case first =>
    have hdr : Ext w2 w2.drew := extA
    have hA := A.ext hdr
    have hB := B.ext hdr
    have hzw : w.heap.size + 1 + 1 < w2.heap.size := cell_lt R.c0
    have hS : w2.drew.cell? ⟨w.heap.size, 0, none⟩ = some (.bool s) ∧ w2.drew.cell? ⟨w.heap.size, 2, none⟩ = some (.slice ba (toB 1000000000 d).length bc) ∧ w2.drew.cell? ⟨w.heap.size + 1, 2, none⟩ = some (.slice va (toB 1000000000 q).length vc) := ⟨hA.c0, hA.c2, hB.c2⟩
    clear A B R hA hB HX HY
    refine wp_region_heldE 9 (fun w' => w'.cell? ⟨w.heap.size, 0, none⟩ = some (.bool s) ∧ w'.cell? ⟨w.heap.size, 2, none⟩ = some (.slice ba (toB 1000000000 d).length bc) ∧ w'.cell? ⟨w.heap.size + 1, 2, none⟩ = some (.slice va (toB 1000000000 q).length vc)) (by kernel_rfl) ?_
    have HE0 := Lib.hid (E.trans hdr)
    have HDR := Lib.hid hdr
    have hzd : w2.drew.heap.size = w2.heap.size := rfl
    clear hdr E
    generalize w2.drew = W3 at HE0 HDR hS hzd ⊢
    ((refine eTk 0 ?_); (refine eTk 1 ?_); (refine eTk 2 ?_); (refine eTk 3 ?_); (refine eTk 4 ?_); (refine eTk 5 ?_))
    refine wpAnyE_two (i := 6) (j := 8) (o := ?_) (p := ?_) ?_ ?_ (by kernel_rfl) (fun K hK => ?_) (fun K hK => ?_)
    rotate_left 2
    · simp only [List.getElem?_toArray, List.getElem?_cons_succ, List.getElem?_cons_zero]; exact rfl
    · simp only [List.getElem?_toArray, List.getElem?_cons_succ, List.getElem?_cons_zero]; exact rfl
    · go_simp
      go_at_call 140
      refine (HT3.out _ HE0.out).mono ?_
      rintro e w5 ⟨ma, mc, rfl, hm, hmn, hE⟩
      go_wp2_with fail
      have hS5 := And.intro (hE.cell hS.1) (And.intro (hE.cell hS.2.1) (hE.cell hS.2.2))
      refine hK.out _ _ hS5 (fun hHeld => ?_)
      clear hK K
      (try simp only [Act.put, List.setIfInBounds_toArray, List.set_cons_zero, List.set_cons_succ])
      (refine eTk 7 ?_)
      have EA : Ext w5 (w5.alloc (.cells #[.bool false, .slice none 0 0, .slice none 0 0] 157)) := extA
      have N : Num3 w5.heap.size (w5.alloc (.cells #[.bool false, .slice none 0 0, .slice none 0 0] 157)) (.bool false) (.slice none 0 0) (.slice none 0 0) := ⟨by go_simp, by go_simp, by go_simp, by go_simp, by go_simp, by go_simp⟩
      (refine wpAnyE_one (i := 8) (o := ?_) ?_ (by kernel_rfl) (fun K hK => ?_); rotate_left; (focus ((simp only [List.getElem?_toArray, List.getElem?_cons_succ, List.getElem?_cons_zero]; exact rfl))); go_simp; refine hK.out _ _ ?_ (fun hHeld => ?_); rotate_left; clear hK K; (try simp only [Act.put, List.setIfInBounds_toArray, List.set_cons_zero, List.set_cons_succ]))
      rotate_left
      · exact ⟨EA.cell hS5.1, EA.cell hS5.2.1, EA.cell hS5.2.2⟩
      obtain ⟨nb, hnb⟩ : ∃ nb, nb = w5.heap.size := ⟨_, rfl⟩
      have hz5 := hE.size
      have HMN : Hid (0 < (toB 1000000000 X3).length → ∀ z, ma = some z → z.block ≠ nb ∧ w.heap.size + 1 + 1 < z.block) := fun hl z hz => by
        have h1 := hmn z hz
        have h2 := hm.lt hl z hz
        omega
      have HMX := Lib.hid hm
      have HEA := Lib.hid EA
      have hnz : w.heap.size + 1 + 1 < nb := by omega
      have hnw : w5.heap.size ≤ nb := by omega
      have HHE := Lib.hid hE
      rw [← hnb] at N ⊢
      clear hE EA hm hmn hHeld hS5 hS hz5 hnb
      generalize (w5.alloc (.cells #[.bool false, .slice none 0 0, .slice none 0 0] 157)) = W6 at N HEA ⊢
      have HN := Lib.hid N
      obtain ⟨x0, x1, x2, g0, g1, g2⟩ := N
      (refine wpAnyE_free (i := 9) (o := ?_) ?_ (by kernel_rfl) (by kernel_rfl) (fun K hK => ?_); rotate_left; (focus ((simp only [List.getElem?_toArray, List.getElem?_cons_succ, List.getElem?_cons_zero]; exact rfl))); go_simp; refine hK.out _ _ ?_; clear hK K; (try simp only [Act.put, List.setIfInBounds_toArray, List.set_cons_zero, List.set_cons_succ]))
      refine wpAnyE_done (by kernel_rfl) ?_ _
      go_wp2_with fail
      go_meet
      refine ⟨nb, ma, mc, rfl, hnz, ((HN.out.set0 _).set1 _).set2 _, HMX.out.ext (((HEA.out.set hnw _).set hnw _).set hnw _), HMN, ?_⟩
      have hw5 := HHE.out.size
      exact HDR.out.trans ((((HHE.out.trans HEA.out).set (by omega) _).set (by omega) _).set (by omega) _)
    · go_simp
      have EA : Ext W3 (W3.alloc (.cells #[.bool false, .slice none 0 0, .slice none 0 0] 157)) := extA
      have N : Num3 W3.heap.size (W3.alloc (.cells #[.bool false, .slice none 0 0, .slice none 0 0] 157)) (.bool false) (.slice none 0 0) (.slice none 0 0) := ⟨by go_simp, by go_simp, by go_simp, by go_simp, by go_simp, by go_simp⟩
      have hSA := And.intro (EA.cell hS.1) (And.intro (EA.cell hS.2.1) (EA.cell hS.2.2))
      refine hK.out _ _ hSA (fun hHeld => ?_)
      clear hK K hHeld
      (try simp only [Act.put, List.setIfInBounds_toArray, List.set_cons_zero, List.set_cons_succ])
      rw [hzd] at N
      obtain ⟨nb, hnb⟩ : ∃ nb, nb = w2.heap.size := ⟨_, rfl⟩
      have hnl := cell_lt N.c0
      dsimp only at hnl
      rw [← hnb] at N hnl ⊢
      have hnz : w.heap.size + 1 + 1 < nb := by omega
      have hnw : W3.heap.size ≤ nb := by omega
      have HEA := Lib.hid EA
      clear EA hnb
      generalize (W3.alloc (.cells #[.bool false, .slice none 0 0, .slice none 0 0] 157)) = W4 at N HEA hSA hnl ⊢
      (refine wpAnyE_one (i := 6) (o := ?_) ?_ (by kernel_rfl) (fun K hK => ?_); rotate_left; (focus ((simp only [List.getElem?_toArray, List.getElem?_cons_succ, List.getElem?_cons_zero]; exact rfl))); go_simp; go_at_call 140; refine (HT3.out _ (HE0.out.trans HEA.out)).mono ?_; rintro e w5 ⟨ma, mc, rfl, hm, hmn, hE⟩; go_wp2_with fail; refine hK.out _ _ ?_ (fun hHeld => ?_); rotate_left; clear hK K; (try simp only [Act.put, List.setIfInBounds_toArray, List.set_cons_zero, List.set_cons_succ]))
      rotate_left
      · exact ⟨hE.cell hSA.1, hE.cell hSA.2.1, hE.cell hSA.2.2⟩
      (refine eTk 7 ?_)
      have N5 := N.ext hE
      have HMN : Hid (0 < (toB 1000000000 X3).length → ∀ z, ma = some z → z.block ≠ nb ∧ w.heap.size + 1 + 1 < z.block) := fun hl z hz => by
        have h1 := hmn z hz
        omega
      have HMX := Lib.hid hm
      have HHE := Lib.hid (HEA.out.trans hE)
      clear hE hm hmn hHeld hSA hS N
      have HN := Lib.hid N5
      obtain ⟨x0, x1, x2, g0, g1, g2⟩ := N5
      (refine wpAnyE_free (i := 9) (o := ?_) ?_ (by kernel_rfl) (by kernel_rfl) (fun K hK => ?_); rotate_left; (focus ((simp only [List.getElem?_toArray, List.getElem?_cons_succ, List.getElem?_cons_zero]; exact rfl))); go_simp; refine hK.out _ _ ?_; clear hK K; (try simp only [Act.put, List.setIfInBounds_toArray, List.set_cons_zero, List.set_cons_succ]))
      refine wpAnyE_done (by kernel_rfl) ?_ _
      go_wp2_with fail
      go_meet
      refine ⟨nb, ma, mc, rfl, hnz, ((HN.out.set0 _).set1 _).set2 _, ((HMX.out.set2 (fun hl z hz => (HMN.out hl z hz).1)).set2 (fun hl z hz => (HMN.out hl z hz).1)).set2 (fun hl z hz => (HMN.out hl z hz).1), HMN, ?_⟩
      exact HDR.out.trans (((HHE.out.set hnw _).set hnw _).set hnw _)
  case rest =>
    obtain ⟨nb, ma, mc, rfl, hnb, N, HM, hmn, hE⟩ := hcut
    replace A := A.ext hE
    replace B := B.ext hE
    replace R := R.ext hE
    replace E := E.trans hE
    replace HX := Lib.hid (HX.out.ext hE)
    replace HY := Lib.hid (HY.out.ext hE)
    clear hE HT1 HT2 HT3
    obtain ⟨a0, a1, a2, _, _, _⟩ := A
    obtain ⟨b0, b1, b2, _, _, _⟩ := B
    have A := True.intro
    have B := True.intro
    by_cases hsr : s = r
    · have HE : Hid (SN = (s, X1 + X2, X3)) := HSN.out.trans (by rw [if_pos hsr])
      have hsb : (s == r) = true := by rw [hsr]; exact beq_self_eq_true r
      clear HSN hsr
      go_wp2_with fail
      refine ((plus_any X1 X2 _ _ xa ya xc yc wc rfl rfl (by omega) (by omega) HX.out HY.out).mono fun _ _ h => h.newB).mono ?_
      rintro e w4 ⟨pa, pc, rfl, hp, hpn, hE4⟩
      have hzn : nb < wc.heap.size := cell_lt N.out.c0
      have HPN : Hid (∀ z, pa = some z → z.block ≠ nb ∧ w.heap.size + 1 + 1 < z.block) := fun z hz => by have := hpn z hz; omega
      have HP := Lib.hid hp
      have N4 := N.out.ext hE4
      have R4 := R.ext hE4
      have E4 := E.trans hE4
      have HM4 := Lib.hid (HM.out.ext hE4)
      obtain ⟨x0, x1, x2, g0, g1, g2⟩ := N4
      obtain ⟨c0, c1, c2, f0, f1, f2⟩ := R4
      have hne : nb ≠ w.heap.size + 1 + 1 := by omega
      clear hE4 hp hpn A B R E N HX HY HM
      go_wp2_with fail
      refine bodyPost_ret (v := .agg #[.bool s, .slice pa (toB 1000000000 (X1 + X2)).length pc, .slice ma (toB 1000000000 X3).length mc]) (by rw [results_cell1 rfl]; go_simp) rfl ?_
      refine ⟨_, rfl, ?_, newN_mk (fun hl z hz => by have := (HPN.out z hz).2; omega) (fun hl z hz => by have := (hmn.out hl z hz).2; omega), extA⟩
      rw [HE.out]
      refine ⟨pa, pc, ma, mc, rfl, ?_, ?_⟩
      · exact (CellsN.set2 (CellsN.set2 (CellsN.set2 (CellsN.set2 HP.out (fun hl z hz => (HPN.out z hz).1)) (fun hl z hz => Nat.ne_of_gt (HPN.out z hz).2)) (fun hl z hz => Nat.ne_of_gt (HPN.out z hz).2)) (fun hl z hz => Nat.ne_of_gt (HPN.out z hz).2))
      · exact (CellsN.set2 (CellsN.set2 (CellsN.set2 (CellsN.set2 HM4.out (fun hl z hz => (hmn.out hl z hz).1)) (fun hl z hz => Nat.ne_of_gt (hmn.out hl z hz).2)) (fun hl z hz => Nat.ne_of_gt (hmn.out hl z hz).2)) (fun hl z hz => Nat.ne_of_gt (hmn.out hl z hz).2))
    · have hsb : (s == r) = false := by rw [beq_eq_false_iff_ne]; exact hsr
      by_cases hle : X2 ≤ X1
      · have HE : Hid (SN = (s, X1 - X2, X3)) := HSN.out.trans (by rw [if_neg hsr, if_pos hle])
        obtain ⟨z, hz, hz0⟩ : ∃ z, ordN X1 X2 = z ∧ 0 ≤ z := ⟨_, rfl, ordN_ge.2 hle⟩
        have HLE := Lib.hid hle
        clear HSN hsr hle
        go_wp2_with fail
        refine (compare_any X1 X2 _ _ xa ya xc yc wc rfl rfl (by omega) (by omega) HX.out HY.out).mono ?_
        rintro e wd ⟨rfl, hE⟩
        rw [hz]
        replace R := R.ext hE
        replace E := E.trans hE
        replace HX := Lib.hid (HX.out.ext hE)
        replace HY := Lib.hid (HY.out.ext hE)
        replace N := Lib.hid (N.out.ext hE)
        replace HM := Lib.hid (HM.out.ext hE)
        clear hE hz a0 a1 a2 b0 b1 b2
        go_wp2_with fail
        refine ((minus_any X1 X2 _ _ xa ya xc yc wd rfl rfl HLE.out (by omega) HX.out HY.out).mono fun _ _ h => h.newB).mono ?_
        rintro e w4 ⟨pa, pc, rfl, hp, hpn, hE4⟩
        have hzn : nb < wd.heap.size := cell_lt N.out.c0
        have HPN : Hid (∀ z, pa = some z → z.block ≠ nb ∧ w.heap.size + 1 + 1 < z.block) := fun z hz => by have := hpn z hz; omega
        have HP := Lib.hid hp
        have N4 := N.out.ext hE4
        have R4 := R.ext hE4
        have E4 := E.trans hE4
        have HM4 := Lib.hid (HM.out.ext hE4)
        obtain ⟨x0, x1, x2, g0, g1, g2⟩ := N4
        obtain ⟨c0, c1, c2, f0, f1, f2⟩ := R4
        have hne : nb ≠ w.heap.size + 1 + 1 := by omega
        clear hE4 hp hpn A B R E N HX HY HM
        go_wp2_with fail
        refine bodyPost_ret (v := .agg #[.bool s, .slice pa (toB 1000000000 (X1 - X2)).length pc, .slice ma (toB 1000000000 X3).length mc]) (by rw [results_cell1 rfl]; go_simp) rfl ?_
        refine ⟨_, rfl, ?_, newN_mk (fun hl z hz => by have := (HPN.out z hz).2; omega) (fun hl z hz => by have := (hmn.out hl z hz).2; omega), extA⟩
        rw [HE.out]
        refine ⟨pa, pc, ma, mc, rfl, ?_, ?_⟩
        · exact (CellsN.set2 (CellsN.set2 (CellsN.set2 (CellsN.set2 HP.out (fun hl z hz => (HPN.out z hz).1)) (fun hl z hz => Nat.ne_of_gt (HPN.out z hz).2)) (fun hl z hz => Nat.ne_of_gt (HPN.out z hz).2)) (fun hl z hz => Nat.ne_of_gt (HPN.out z hz).2))
        · exact (CellsN.set2 (CellsN.set2 (CellsN.set2 (CellsN.set2 HM4.out (fun hl z hz => (hmn.out hl z hz).1)) (fun hl z hz => Nat.ne_of_gt (hmn.out hl z hz).2)) (fun hl z hz => Nat.ne_of_gt (hmn.out hl z hz).2)) (fun hl z hz => Nat.ne_of_gt (hmn.out hl z hz).2))
      · have HE : Hid (SN = (r, X2 - X1, X3)) := HSN.out.trans (by rw [if_neg hsr, if_neg hle])
        obtain ⟨z, hz, hz0⟩ : ∃ z, ordN X1 X2 = z ∧ ¬ 0 ≤ z := ⟨_, rfl, fun h => hle (ordN_ge.1 h)⟩
        have HLE : Hid (X1 ≤ X2) := by show _ ≤ _; omega
        clear HSN hsr hle
        go_wp2_with fail
        refine (compare_any X1 X2 _ _ xa ya xc yc wc rfl rfl (by omega) (by omega) HX.out HY.out).mono ?_
        rintro e wd ⟨rfl, hE⟩
        rw [hz]
        replace R := R.ext hE
        replace E := E.trans hE
        replace HX := Lib.hid (HX.out.ext hE)
        replace HY := Lib.hid (HY.out.ext hE)
        replace N := Lib.hid (N.out.ext hE)
        replace HM := Lib.hid (HM.out.ext hE)
        replace b0 := hE.cell b0
        clear hE hz a0 a1 a2 b1 b2
        go_wp2_with fail
        have hdr : Ext wd wd.drew := extA
        have hS : wd.drew.cell? ⟨w.heap.size + 1, 0, none⟩ = some (.bool r) := hdr.cell b0
        replace R := R.ext hdr
        replace E := E.trans hdr
        replace HX := Lib.hid (HX.out.ext hdr)
        replace HY := Lib.hid (HY.out.ext hdr)
        replace N := Lib.hid (N.out.ext hdr)
        replace HM := Lib.hid (HM.out.ext hdr)
        refine wp_region_heldE 6 (fun w' => w'.cell? ⟨w.heap.size + 1, 0, none⟩ = some (.bool r)) (by kernel_rfl) ?_
        clear b0 hdr
        generalize wd.drew = wd at R E HX HY N HM hS ⊢
        ((refine eTk 0 ?_); (refine eTk 1 ?_))
        ((refine ePu 2 ?_); (refine ePu 3 ?_); (refine ePu 5 ?_))
        (refine wpAnyE_one (i := 4) (o := ?_) ?_ (by kernel_rfl) (fun K hK => ?_); rotate_left; (focus ((simp only [List.getElem?_toArray, List.getElem?_cons_succ, List.getElem?_cons_zero]; exact rfl))); go_simp; go_at_call 142; refine ((minus_any X2 X1 _ _ ya xa yc xc wd rfl rfl HLE.out (by omega) HY.out HX.out).mono fun _ _ h => h.newB).mono ?_; rintro e w4 ⟨pa, pc, rfl, hp, hpn, hE4⟩; go_wp2_with fail; refine hK.out _ _ ?_ (fun hHeld => ?_); rotate_left; clear hK K; (try simp only [Act.put, List.setIfInBounds_toArray, List.set_cons_zero, List.set_cons_succ]))
        rotate_left
        · exact hE4.cell hS
        have hzn : nb < wd.heap.size := cell_lt N.out.c0
        have HPN : Hid (∀ z, pa = some z → z.block ≠ nb ∧ w.heap.size + 1 + 1 < z.block) := fun z hz => by have := hpn z hz; omega
        have HP := Lib.hid hp
        have N4 := N.out.ext hE4
        have R4 := R.ext hE4
        have E4 := E.trans hE4
        have HM4 := Lib.hid (HM.out.ext hE4)
        obtain ⟨x0, x1, x2, g0, g1, g2⟩ := N4
        obtain ⟨c0, c1, c2, f0, f1, f2⟩ := R4
        have hne : nb ≠ w.heap.size + 1 + 1 := by omega
        have hSf := hE4.cell hS
        clear hE4 hp hpn R E N HX HY HM hS hHeld
        (refine wpAnyE_free (i := 6) (o := ?_) ?_ (by kernel_rfl) (by kernel_rfl) (fun K hK => ?_); rotate_left; (focus ((simp only [List.getElem?_toArray, List.getElem?_cons_succ, List.getElem?_cons_zero]; exact rfl))); go_simp; refine hK.out _ _ ?_; clear hK K; (try simp only [Act.put, List.setIfInBounds_toArray, List.set_cons_zero, List.set_cons_succ]))
        (refine ePu 7 ?_)
        (refine wpAnyE_free (i := 8) (o := ?_) ?_ (by kernel_rfl) (by kernel_rfl) (fun K hK => ?_); rotate_left; (focus ((simp only [List.getElem?_toArray, List.getElem?_cons_succ, List.getElem?_cons_zero]; exact rfl))); go_simp; refine hK.out _ _ ?_; clear hK K; (try simp only [Act.put, List.setIfInBounds_toArray, List.set_cons_zero, List.set_cons_succ]))
        refine wpAnyE_done (by kernel_rfl) ?_ _
        go_wp2_with fail
        refine bodyPost_ret (v := .agg #[.bool r, .slice pa (toB 1000000000 (X2 - X1)).length pc, .slice ma (toB 1000000000 X3).length mc]) (by rw [results_cell1 rfl]; go_simp) rfl ?_
        refine ⟨_, rfl, ?_, newN_mk (fun hl z hz => by have := (HPN.out z hz).2; omega) (fun hl z hz => by have := (hmn.out hl z hz).2; omega), extA⟩
        rw [HE.out]
        refine ⟨pa, pc, ma, mc, rfl, ?_, ?_⟩
        · exact (CellsN.set2 (CellsN.set2 (CellsN.set2 (CellsN.set2 (CellsN.set2 HP.out (fun hl z hz => (HPN.out z hz).1)) (fun hl z hz => (HPN.out z hz).1)) (fun hl z hz => Nat.ne_of_gt (HPN.out z hz).2)) (fun hl z hz => Nat.ne_of_gt (HPN.out z hz).2)) (fun hl z hz => Nat.ne_of_gt (HPN.out z hz).2))
        · exact (CellsN.set2 (CellsN.set2 (CellsN.set2 (CellsN.set2 (CellsN.set2 HM4.out (fun hl z hz => (hmn.out hl z hz).1)) (fun hl z hz => (hmn.out hl z hz).1)) (fun hl z hz => Nat.ne_of_gt (hmn.out hl z hz).2)) (fun hl z hz => Nat.ne_of_gt (hmn.out hl z hz).2)) (fun hl z hz => Nat.ne_of_gt (hmn.out hl z hz).2))
end Go.Proofs.YtlhpfhnbeagnaaaGreatDoor
namespace Go.Proofs.YtlhpfhnbeagnaaaGreatDoor
open Go.RowKit
open Go.Lib (decDigits)
def NumR (w : World) (v : Value) (x : Num) : Prop := ∃ ta tc ba bc, v = .agg #[.bool x.1, .slice ta (toB 1000000 x.2.1).length tc, .slice ba (toB 1000000 x.2.2).length bc] ∧
  CellsN .i64 w ta (toB 1000000 x.2.1) ∧ CellsN .i64 w ba (toB 1000000 x.2.2)
theorem NumR.ext {w w' : World} {v : Value} {x : Num} (h : NumR w v x) (e : Ext w w') : NumR w' v x := by
  obtain ⟨ta, tc, ba, bc, h1, h2, h3⟩ := h
  exact ⟨ta, tc, ba, bc, h1, h2.ext e, h3.ext e⟩
end Go.Proofs.YtlhpfhnbeagnaaaGreatDoor
namespace Go.Proofs.YtlhpfhnbeagnaaaGreatDoor
open Go.RowKit
open Go.Lib (decDigits)
theorem dec_zero {n : Nat} : decDigits n = [48] ↔ n = 0 := by
  constructor
  · intro h
    have := (digits_ok n).2.1
    rw [h] at this
    exact this.symm
  · rintro rfl; exact digits_small (by omega)
theorem dec_one {n : Nat} : decDigits n = [49] ↔ n = 1 := by
  constructor
  · intro h
    have := (digits_ok n).2.1
    rw [h] at this
    exact this.symm
  · rintro rfl; exact digits_small (by omega)
def joinT (s : Bool) (T D : Txt) : Txt := (if s && decide (T ≠ [48]) then 45 :: T else T) ++ (if D = [49] then [] else 47 :: D)
theorem made_parts {s : Bool} {t d : Nat} (hd : d ≠ 0) {T D : Txt} (hT : T = decDigits (t / Nat.gcd t d)) (hD : D = decDigits (d / Nat.gcd t d)) :
    (¬ (60 < T.length ∨ 60 < D.length) → madeT (numQ s t d) = joinT s T D ∧ madeE (numQ s t d) = 0) ∧ ((60 < T.length ∨ 60 < D.length) → madeT (numQ s t d) = [] ∧ madeE (numQ s t d) = 11) := by
  have hf := num_fit (s := s) (t := t) hd
  rw [← hT, ← hD] at hf
  unfold madeT madeE
  constructor
  · intro h
    rw [if_pos (hf.2 (by omega)), if_pos (hf.2 (by omega)), num_text hd, ← hT, ← hD]
    refine ⟨?_, rfl⟩
    unfold joinT
    have e1 : decide (t / Nat.gcd t d ≠ 0) = decide (T ≠ [48]) := decide_eq_decide.2 (by rw [hT, Ne, Ne, dec_zero])
    rw [e1]
    congr 1
    by_cases h1 : d / Nat.gcd t d = 1
    · rw [if_pos h1, if_pos (by rw [hD]; exact dec_one.2 h1)]
    · rw [if_neg h1, if_neg (by rw [hD]; exact fun e => h1 (dec_one.1 e))]
  · intro h
    rw [if_neg (fun e => by have := hf.1 e; omega), if_neg (fun e => by have := hf.1 e; omega)]
    exact ⟨rfl, rfl⟩
def WritPost (q : Rat) (w : World) (e : Ending) (w' : World) : Prop := e = .returned (.tuple #[txt (madeT q), .int .i64 (madeE q : Nat)]) ∧ Ext w w'
theorem bare_digits (n : Nat) : bareS (decDigits n) = decDigits n := bare_pos (canon_pos (canon_digits n))
theorem OwnNPost2.newC2 {x y : Nat} {w : World} {e : Ending} {w' : World} (h : OwnNPost2 .u64 153 (toB 1000000000 x) (toB 1000000000 y) w e w') :
    ∃ a c b d, e = .returned (.tuple #[.slice a (toB 1000000000 x).length c, .slice b (toB 1000000000 y).length d]) ∧ CellsN .u64 w' a (toB 1000000000 x) ∧ CellsN .u64 w' b (toB 1000000000 y) ∧ (∀ p, a = some p → w.heap.size ≤ p.block) ∧ (∀ p, b = some p → w.heap.size ≤ p.block) ∧ Ext w w' := by
  obtain ⟨v, u, h1, h2, h3, h4, h5, h6⟩ := h
  obtain ⟨a, c, rfl, k1, _⟩ := h2.reads
  obtain ⟨b, d, rfl, k2, _⟩ := h3.reads
  exact ⟨a, c, b, d, h1, k1, k2, (fun p hp => h4 p.block (by rw [hp]; rfl)), (fun p hp => h5 p.block (by rw [hp]; rfl)), h6⟩
set_option maxHeartbeats 8000000 in
set_option maxRecDepth 100000 in
theorem written_any (s : Bool) (t d : Nat) (v : Value) (w : World) (hv : NumV w v (s, t, d)) (hd : d ≠ 0) (hG : Glob w) (h1 : (toB 1000000000 t).length ≤ 90) (h2 : (toB 1000000000 d).length ≤ 90) :
    Calls Tryz.prog 127 #[v] w (WritPost (numQ s t d) w) := by
  obtain ⟨ta, tc, ba, bc, rfl, hct, hcb⟩ := hv
  obtain ⟨T, hT⟩ : ∃ T, T = decDigits (t / Nat.gcd t d) := ⟨_, rfl⟩
  obtain ⟨D, hD⟩ : ∃ D, D = decDigits (d / Nat.gcd t d) := ⟨_, rfl⟩
  have HMP := Lib.hid (made_parts (s := s) hd hT hD)
  obtain ⟨g, hg⟩ : ∃ g, g = Nat.gcd t d := ⟨_, rfl⟩
  have hg0 : 0 < g := by rw [hg]; exact Nat.gcd_pos_of_pos_right _ (by omega)
  rw [← hg] at hT hD
  have hbT : bareS T = T := by rw [hT]; exact bare_digits _
  have hbD : bareS D = D := by rw [hD]; exact bare_digits _
  have hdl := lt_of_len (x := d) rfl (by omega)
  have hgl : (toB 1000000000 g).length ≤ 100 := by
    have hgd : g ≤ d := by rw [hg]; exact Nat.gcd_le_right _ (by omega)
    exact toB_len (by omega) 100 (by omega)
  have htl := lt_of_len (x := t) rfl (by omega)
  have hn1 : (toB 1000000000 (t / g)).length ≤ 100 := toB_len (by omega) 100 (by have := Nat.div_le_self t g; omega)
  have hn2 : (toB 1000000000 (d / g)).length ≤ 100 := toB_len (by omega) 100 (by have := Nat.div_le_self d g; omega)
  have HDV := Lib.hid (fun W (hW : Ext w W) => (divisor_any t d _ _ ta ba tc bc W rfl rfl (by omega) (by omega) (by omega) (hct.ext hW) (hcb.ext hW)).mono fun _ _ h => h.newB)
  rw [← hg] at HDV
  have HO1 := Lib.hid (fun W (hW : Ext w W) ga gc (hgc : CellsN .u64 W ga (toB 1000000000 g)) => (over_any t g _ _ ta ga tc gc W rfl rfl hg0 (by omega) (by omega) (hct.ext hW) hgc).mono fun _ _ h => h.newC2)
  have HO2 := Lib.hid (fun W (hW : Ext w W) ga gc (hgc : CellsN .u64 W ga (toB 1000000000 g)) => (over_any d g _ _ ba ga bc gc W rfl rfl hg0 (by omega) (by omega) (hcb.ext hW) hgc).mono fun _ _ h => h.newC2)
  have HTX := Lib.hid (fun W (hW : Ext w W) a c (hc : CellsN .u64 W a (toB 1000000000 (t / g))) => text_any (t / g) _ a c W rfl (by omega) (hG.ext hW) hc)
  have HDX := Lib.hid (fun W (hW : Ext w W) a c (hc : CellsN .u64 W a (toB 1000000000 (d / g))) => text_any (d / g) _ a c W rfl (by omega) (hG.ext hW) hc)
  rw [← hT] at HTX
  rw [← hD] at HDX
  have HL1 := Lib.hid (fun W => long_any T W)
  have HL2 := Lib.hid (fun W => long_any D W)
  rw [hbT] at HL1
  rw [hbD] at HL2
  have HCT := Lib.hid hct
  have HCB := Lib.hid hcb
  have HG1 : Hid (g = 1 → t / g = t ∧ d / g = d) := fun e => by rw [e, Nat.div_one, Nat.div_one]; exact ⟨rfl, rfl⟩
  generalize numQ s t d = q at *
  generalize t / g = n1 at *
  generalize d / g = n2 at *
  clear hct hcb hbT hbD hT hD hg hdl htl hd hG
  go_enter Tryz.func127, Tryz.ntmps127
  go_wp2_with fail
  have E : Ext w (w.alloc (.cells #[.bool s, .slice ta (toB 1000000000 t).length tc, .slice ba (toB 1000000000 d).length bc] 157)) := extA
  have X : Num3 w.heap.size (w.alloc (.cells #[.bool s, .slice ta (toB 1000000000 t).length tc, .slice ba (toB 1000000000 d).length bc] 157)) (.bool s) (.slice ta (toB 1000000000 t).length tc) (.slice ba (toB 1000000000 d).length bc) := ⟨by go_simp, by go_simp, by go_simp, by go_simp, by go_simp, by go_simp⟩
  have hW0 : w.heap.size < (w.alloc (.cells #[.bool s, .slice ta (toB 1000000000 t).length tc, .slice ba (toB 1000000000 d).length bc] 157)).heap.size := by simp
  generalize (w.alloc (.cells #[.bool s, .slice ta (toB 1000000000 t).length tc, .slice ba (toB 1000000000 d).length bc] 157)) = W0 at E X hW0 ⊢
  refine (HDV.out _ E).mono ?_
  rintro e w1 ⟨ga, gc, rfl, hgc, hgn, hE⟩
  have EV : Ext w1 (w1.alloc (.cells #[.int .u64 1] 153)) := extA
  replace X := (X.ext hE).ext EV
  replace E := (E.trans hE).trans EV
  have HGC := Lib.hid (hgc.ext EV)
  have HGN : Hid (∀ p, ga = some p → p.block ≠ w.heap.size) := fun p hp => by have h1 := hgn p hp; have h2 : w.heap.size < W0.heap.size := hW0; omega
  have HL := Lib.hid (cells_lit w1 153)
  clear hE EV hgc hgn
  go_wp2_with fail
  generalize (w1.alloc (.cells #[.int .u64 1] 153)) = w2 at X E HGC HL ⊢
  refine (compare1_any g _ ga gc w1.heap.size _ rfl (by omega) HGC.out HL.out).mono ?_
  rintro e w3 ⟨rfl, hE⟩
  replace X := X.ext hE
  replace E := E.trans hE
  replace HGC := Lib.hid (HGC.out.ext hE)
  clear hE HL
  have hwl : w.heap.size < w3.heap.size := cell_lt X.c0
  by_cases hle : g ≤ 1
  · obtain ⟨e1, e2⟩ := HG1.out (by omega)
    subst e1 e2
    obtain ⟨z, hz, hz0⟩ : ∃ z, ordN g 1 = z ∧ ¬ 0 < z := ⟨_, rfl, by have := ordN_le.2 hle; omega⟩
    rw [hz]
    have HC1 := Lib.hid (HCT.out.ext E)
    have HC2 := Lib.hid (HCB.out.ext E)
    clear hz
    go_wp2_with fail
    have hdr : Ext w3 w3.drew := extA
    have hS : w3.drew.cell? ⟨w.heap.size, 1, none⟩ = some (.slice ta (toB 1000000000 n1).length tc) ∧ w3.drew.cell? ⟨w.heap.size, 2, none⟩ = some (.slice ba (toB 1000000000 n2).length bc) := ⟨hdr.cell X.c1, hdr.cell X.c2⟩
    have x0 := hdr.cell X.c0
    have HEW := Lib.hid (E.trans hdr)
    have HC1w := Lib.hid (HC1.out.ext hdr)
    have HC2w := Lib.hid (HC2.out.ext hdr)
    refine wp_region_heldE 99 (fun w' => w'.cell? ⟨w.heap.size, 1, none⟩ = some (.slice ta (toB 1000000000 n1).length tc) ∧ w'.cell? ⟨w.heap.size, 2, none⟩ = some (.slice ba (toB 1000000000 n2).length bc)) (by kernel_rfl) ?_
    clear X E HC1 HC2 hdr
    ((refine eTk 0 ?_); (refine eTk 1 ?_); (refine eTk 3 ?_); (refine eTk 4 ?_))
    (refine wpAnyE_one (i := 2) (o := ?_) ?_ (by kernel_rfl) (fun K hK => ?_); rotate_left; (focus ((simp only [List.getElem?_toArray, List.getElem?_cons_succ, List.getElem?_cons_zero]; exact rfl))); go_simp; go_at_call 148; refine (HTX.out _ HEW.out _ _ HC1w.out).mono ?_; rintro e w8 ⟨rfl, hE8⟩; go_wp2_with fail; refine hK.out _ _ ?_ (fun hHeld => ?_); rotate_left; clear hK K; (try simp only [Act.put, List.setIfInBounds_toArray, List.set_cons_zero, List.set_cons_succ]))
    rotate_left
    · exact ⟨hE8.cell hS.1, hE8.cell hS.2⟩
    have hS2 : w8.cell? ⟨w.heap.size, 1, none⟩ = some (.slice ta (toB 1000000000 n1).length tc) ∧ w8.cell? ⟨w.heap.size, 2, none⟩ = some (.slice ba (toB 1000000000 n2).length bc) := ⟨hE8.cell hS.1, hE8.cell hS.2⟩
    replace x0 := hE8.cell x0
    have HE8 := Lib.hid (HEW.out.trans hE8)
    have HC8 := Lib.hid (HC2w.out.ext hE8)
    clear hE8 hS HEW HC1w HC2w
    (refine wpAnyE_one (i := 5) (o := ?_) ?_ (by kernel_rfl) (fun K hK => ?_); rotate_left; (focus ((simp only [List.getElem?_toArray, List.getElem?_cons_succ, List.getElem?_cons_zero]; exact rfl))); go_simp; go_at_call 148; refine (HDX.out _ HE8.out _ _ HC8.out).mono ?_; rintro e w9 ⟨rfl, hE9⟩; go_wp2_with fail; refine hK.out _ _ ?_ (fun hHeld => ?_); rotate_left; clear hK K; (try simp only [Act.put, List.setIfInBounds_toArray, List.set_cons_zero, List.set_cons_succ]))
    rotate_left
    · exact ⟨hE9.cell hS2.1, hE9.cell hS2.2⟩
    replace x0 := hE9.cell x0
    have E := HE8.out.trans hE9
    clear hE9 hS2 HE8 HC8
    ((refine eTk 6 ?_); (refine eTk 7 ?_))
    refine wpAnyE_done (by kernel_rfl) ?_ _
    clear hHeld HTX HDX HDV HO1 HO2 HCT HCB HG1
    by_cases hb1 : 60 < T.length
    · have HE := Lib.hid (HMP.out.2 (.inl hb1))
      rw [decide_eq_true hb1] at HL1
      clear hb1 HMP
      go_wp2_with (first
        | (go_at_call 136; (with_reducible refine (HL1.out _).mono ?_); rintro e w' ⟨rfl, hE⟩; replace x0 := hE.cell x0; replace E := E.trans hE; clear hE)
        | (go_at_call 136; (with_reducible refine (HL2.out _).mono ?_); rintro e w' ⟨rfl, hE⟩; replace x0 := hE.cell x0; replace E := E.trans hE; clear hE))
      go_ret2
      exact ⟨by rw [HE.out.1, HE.out.2]; rfl, E⟩
    by_cases hb2 : 60 < D.length
    · have HE := Lib.hid (HMP.out.2 (.inr hb2))
      rw [decide_eq_false hb1] at HL1
      rw [decide_eq_true hb2] at HL2
      clear hb1 hb2 HMP
      go_wp2_with (first
        | (go_at_call 136; (with_reducible refine (HL1.out _).mono ?_); rintro e w' ⟨rfl, hE⟩; replace x0 := hE.cell x0; replace E := E.trans hE; clear hE)
        | (go_at_call 136; (with_reducible refine (HL2.out _).mono ?_); rintro e w' ⟨rfl, hE⟩; replace x0 := hE.cell x0; replace E := E.trans hE; clear hE))
      go_ret2
      exact ⟨by rw [HE.out.1, HE.out.2]; rfl, E⟩
    have HE := Lib.hid (HMP.out.1 (fun h => h.elim hb1 hb2))
    rw [decide_eq_false hb1] at HL1
    rw [decide_eq_false hb2] at HL2
    clear HMP
    have a1 := app_txt [45] T
    have a2 := app_txt [47] D
    have a3 := app_txt T (47 :: D)
    have a4 := app_txt (45 :: T) (47 :: D)
    have l1 : ¬ 9223372036854775807 < 1 + T.length := by omega
    have l2 : ¬ 9223372036854775807 < 1 + D.length := by omega
    have l3 : ¬ 9223372036854775807 < T.length + (D.length + 1) := by omega
    have l4 : ¬ 9223372036854775807 < T.length + 1 + (D.length + 1) := by omega
    by_cases hD1 : D = [49]
    · have d1 : (D == [49]) = true := by rw [hD1]; rfl
      have HJD := Lib.hid hD1
      clear hD1
      cases s
      · have HJ : Hid (joinT false T D = T) := by show _ = _; unfold joinT; rw [if_pos HJD.out]; simp
        go_wp2_with (first
          | (go_at_call 136; (with_reducible refine (HL1.out _).mono ?_); rintro e w' ⟨rfl, hE⟩; replace x0 := hE.cell x0; replace E := E.trans hE; clear hE)
          | (go_at_call 136; (with_reducible refine (HL2.out _).mono ?_); rintro e w' ⟨rfl, hE⟩; replace x0 := hE.cell x0; replace E := E.trans hE; clear hE))
        go_ret2
        exact ⟨by rw [HE.out.1, HE.out.2, HJ.out]; rfl, E⟩
      · by_cases hT0 : T = [48]
        · have t1 : (T == [48]) = true := by rw [hT0]; rfl
          have HJ : Hid (joinT true T D = T) := by show _ = _; unfold joinT; rw [if_pos HJD.out, hT0]; simp
          clear hT0
          go_wp2_with (first
            | (go_at_call 136; (with_reducible refine (HL1.out _).mono ?_); rintro e w' ⟨rfl, hE⟩; replace x0 := hE.cell x0; replace E := E.trans hE; clear hE)
            | (go_at_call 136; (with_reducible refine (HL2.out _).mono ?_); rintro e w' ⟨rfl, hE⟩; replace x0 := hE.cell x0; replace E := E.trans hE; clear hE))
          go_ret2
          exact ⟨by rw [HE.out.1, HE.out.2, HJ.out]; rfl, E⟩
        · have t1 : (T == [48]) = false := by rw [beq_eq_false_iff_ne]; exact hT0
          have HJ : Hid (joinT true T D = 45 :: T) := by show _ = _; unfold joinT; rw [if_pos HJD.out, decide_eq_true hT0]; simp
          clear hT0
          go_wp2_with (first
            | (go_at_call 136; (with_reducible refine (HL1.out _).mono ?_); rintro e w' ⟨rfl, hE⟩; replace x0 := hE.cell x0; replace E := E.trans hE; clear hE)
            | (go_at_call 136; (with_reducible refine (HL2.out _).mono ?_); rintro e w' ⟨rfl, hE⟩; replace x0 := hE.cell x0; replace E := E.trans hE; clear hE))
          go_ret2
          exact ⟨by rw [HE.out.1, HE.out.2, HJ.out]; rfl, E⟩
    · have d1 : (D == [49]) = false := by rw [beq_eq_false_iff_ne]; exact hD1
      have HJD := Lib.hid hD1
      clear hD1
      cases s
      · have HJ : Hid (joinT false T D = T ++ 47 :: D) := by show _ = _; unfold joinT; rw [if_neg HJD.out]; simp
        go_wp2_with (first
          | (go_at_call 136; (with_reducible refine (HL1.out _).mono ?_); rintro e w' ⟨rfl, hE⟩; replace x0 := hE.cell x0; replace E := E.trans hE; clear hE)
          | (go_at_call 136; (with_reducible refine (HL2.out _).mono ?_); rintro e w' ⟨rfl, hE⟩; replace x0 := hE.cell x0; replace E := E.trans hE; clear hE))
        go_ret2
        exact ⟨by rw [HE.out.1, HE.out.2, HJ.out]; rfl, E⟩
      · by_cases hT0 : T = [48]
        · have t1 : (T == [48]) = true := by rw [hT0]; rfl
          have HJ : Hid (joinT true T D = T ++ 47 :: D) := by show _ = _; unfold joinT; rw [if_neg HJD.out, hT0]; simp
          clear hT0
          go_wp2_with (first
            | (go_at_call 136; (with_reducible refine (HL1.out _).mono ?_); rintro e w' ⟨rfl, hE⟩; replace x0 := hE.cell x0; replace E := E.trans hE; clear hE)
            | (go_at_call 136; (with_reducible refine (HL2.out _).mono ?_); rintro e w' ⟨rfl, hE⟩; replace x0 := hE.cell x0; replace E := E.trans hE; clear hE))
          go_ret2
          exact ⟨by rw [HE.out.1, HE.out.2, HJ.out]; rfl, E⟩
        · have t1 : (T == [48]) = false := by rw [beq_eq_false_iff_ne]; exact hT0
          have HJ : Hid (joinT true T D = (45 :: T) ++ 47 :: D) := by show _ = _; unfold joinT; rw [if_neg HJD.out, decide_eq_true hT0]; simp
          clear hT0
          go_wp2_with (first
            | (go_at_call 136; (with_reducible refine (HL1.out _).mono ?_); rintro e w' ⟨rfl, hE⟩; replace x0 := hE.cell x0; replace E := E.trans hE; clear hE)
            | (go_at_call 136; (with_reducible refine (HL2.out _).mono ?_); rintro e w' ⟨rfl, hE⟩; replace x0 := hE.cell x0; replace E := E.trans hE; clear hE))
          go_ret2
          exact ⟨by rw [HE.out.1, HE.out.2, HJ.out]; rfl, E⟩
  · obtain ⟨z, hz, hz0⟩ : ∃ z, ordN g 1 = z ∧ 0 < z := ⟨_, rfl, by
      have h : ¬ ordN g 1 ≤ 0 := fun h => hle (ordN_le.1 h)
      omega⟩
    rw [hz]
    clear hz
    obtain ⟨x0, x1, x2, g0, g1, g2⟩ := X
    go_wp2_with fail
    refine (HO1.out _ E ga gc HGC.out).mono ?_
    rintro e w4 ⟨qa, qc, qb, qd, rfl, hq1, hq2, hqn, hqm, hE⟩
    have X := (Num3.mk x0 x1 x2 g0 g1 g2).ext hE
    have hqx : ∀ p, qa = some p → p.block ≠ w.heap.size := fun p hp => by have := hqn p hp; omega
    have HQ1 := Lib.hid (hq1.set (c := w.heap.size) (o := 1) (v := .slice qa (toB 1000000000 n1).length qc) hqx)
    have HQX := Lib.hid hqx
    replace E := E.trans hE
    have HX := Lib.hid (X.set1 (.slice qa (toB 1000000000 n1).length qc))
    have HGC := Lib.hid ((HGC.out.ext hE))
    have hwl4 : w.heap.size < w4.heap.size := cell_lt X.c0
    clear x0 x1 x2 g0 g1 g2 hq1 hq2 hqn hqm hE hqx
    obtain ⟨x0, x1, x2, g0, g1, g2⟩ := X
    have E5 : Ext w (w4.setCell ⟨w.heap.size, 1, none⟩ (.slice qa (toB 1000000000 n1).length qc)) := E.set (Nat.le_refl _) _
    have hgx : Hid (CellsN .u64 (w4.setCell ⟨w.heap.size, 1, none⟩ (.slice qa (toB 1000000000 n1).length qc)) ga (toB 1000000000 g)) := HGC.out.set (HGN.out)
    go_wp2_with fail
    generalize w4.setCell ⟨w.heap.size, 1, none⟩ (.slice qa (toB 1000000000 n1).length qc) = w5 at HX HQ1 E5 hgx ⊢
    clear x0 x1 x2 g0 g1 g2 E HGC
    refine (HO2.out _ E5 ga gc hgx.out).mono ?_
    rintro e w7 ⟨ra, rc, rb, rd, rfl, hr1, hr2, hrn, hrm, hE⟩
    have hw5 : w.heap.size < w5.heap.size := cell_lt HX.out.c0
    have X := HX.out.ext hE
    have hrx : ∀ p, ra = some p → p.block ≠ w.heap.size := fun p hp => by have := hrn p hp; omega
    have HC2 := Lib.hid (hr1.set (c := w.heap.size) (o := 2) (v := .slice ra (toB 1000000000 n2).length rc) hrx)
    have HC1 := Lib.hid ((HQ1.out.ext hE).set (c := w.heap.size) (o := 2) (v := .slice ra (toB 1000000000 n2).length rc) HQX.out)
    have E6 : Ext w (w7.setCell ⟨w.heap.size, 2, none⟩ (.slice ra (toB 1000000000 n2).length rc)) := (E5.trans hE).set (Nat.le_refl _) _
    have HX6 := Lib.hid (X.set2 (.slice ra (toB 1000000000 n2).length rc))
    clear hr1 hr2 hrn hrm hE hrx HX HQ1 HQX E5 hgx
    obtain ⟨x0, x1, x2, g0, g1, g2⟩ := X
    go_wp2_with fail
    generalize w7.setCell ⟨w.heap.size, 2, none⟩ (.slice ra (toB 1000000000 n2).length rc) = w6 at HX6 HC1 HC2 E6 ⊢
    clear x0 x1 x2 g0 g1 g2
    have X := HX6.out
    have E := E6
    clear E6 HX6
    have hdr : Ext w6 w6.drew := extA
    have hS : w6.drew.cell? ⟨w.heap.size, 1, none⟩ = some (.slice qa (toB 1000000000 n1).length qc) ∧ w6.drew.cell? ⟨w.heap.size, 2, none⟩ = some (.slice ra (toB 1000000000 n2).length rc) := ⟨hdr.cell X.c1, hdr.cell X.c2⟩
    have x0 := hdr.cell X.c0
    have HEW := Lib.hid (E.trans hdr)
    have HC1w := Lib.hid (HC1.out.ext hdr)
    have HC2w := Lib.hid (HC2.out.ext hdr)
    refine wp_region_heldE 99 (fun w' => w'.cell? ⟨w.heap.size, 1, none⟩ = some (.slice qa (toB 1000000000 n1).length qc) ∧ w'.cell? ⟨w.heap.size, 2, none⟩ = some (.slice ra (toB 1000000000 n2).length rc)) (by kernel_rfl) ?_
    clear X E HC1 HC2 hdr
    ((refine eTk 0 ?_); (refine eTk 1 ?_); (refine eTk 3 ?_); (refine eTk 4 ?_))
    (refine wpAnyE_one (i := 2) (o := ?_) ?_ (by kernel_rfl) (fun K hK => ?_); rotate_left; (focus ((simp only [List.getElem?_toArray, List.getElem?_cons_succ, List.getElem?_cons_zero]; exact rfl))); go_simp; go_at_call 148; refine (HTX.out _ HEW.out _ _ HC1w.out).mono ?_; rintro e w8 ⟨rfl, hE8⟩; go_wp2_with fail; refine hK.out _ _ ?_ (fun hHeld => ?_); rotate_left; clear hK K; (try simp only [Act.put, List.setIfInBounds_toArray, List.set_cons_zero, List.set_cons_succ]))
    rotate_left
    · exact ⟨hE8.cell hS.1, hE8.cell hS.2⟩
    have hS2 : w8.cell? ⟨w.heap.size, 1, none⟩ = some (.slice qa (toB 1000000000 n1).length qc) ∧ w8.cell? ⟨w.heap.size, 2, none⟩ = some (.slice ra (toB 1000000000 n2).length rc) := ⟨hE8.cell hS.1, hE8.cell hS.2⟩
    replace x0 := hE8.cell x0
    have HE8 := Lib.hid (HEW.out.trans hE8)
    have HC8 := Lib.hid (HC2w.out.ext hE8)
    clear hE8 hS HEW HC1w HC2w
    (refine wpAnyE_one (i := 5) (o := ?_) ?_ (by kernel_rfl) (fun K hK => ?_); rotate_left; (focus ((simp only [List.getElem?_toArray, List.getElem?_cons_succ, List.getElem?_cons_zero]; exact rfl))); go_simp; go_at_call 148; refine (HDX.out _ HE8.out _ _ HC8.out).mono ?_; rintro e w9 ⟨rfl, hE9⟩; go_wp2_with fail; refine hK.out _ _ ?_ (fun hHeld => ?_); rotate_left; clear hK K; (try simp only [Act.put, List.setIfInBounds_toArray, List.set_cons_zero, List.set_cons_succ]))
    rotate_left
    · exact ⟨hE9.cell hS2.1, hE9.cell hS2.2⟩
    replace x0 := hE9.cell x0
    have E := HE8.out.trans hE9
    clear hE9 hS2 HE8 HC8
    ((refine eTk 6 ?_); (refine eTk 7 ?_))
    refine wpAnyE_done (by kernel_rfl) ?_ _
    clear hHeld HTX HDX HDV HO1 HO2 HCT HCB HG1
    by_cases hb1 : 60 < T.length
    · have HE := Lib.hid (HMP.out.2 (.inl hb1))
      rw [decide_eq_true hb1] at HL1
      clear hb1 HMP
      go_wp2_with (first
        | (go_at_call 136; (with_reducible refine (HL1.out _).mono ?_); rintro e w' ⟨rfl, hE⟩; replace x0 := hE.cell x0; replace E := E.trans hE; clear hE)
        | (go_at_call 136; (with_reducible refine (HL2.out _).mono ?_); rintro e w' ⟨rfl, hE⟩; replace x0 := hE.cell x0; replace E := E.trans hE; clear hE))
      go_ret2
      exact ⟨by rw [HE.out.1, HE.out.2]; rfl, E⟩
    by_cases hb2 : 60 < D.length
    · have HE := Lib.hid (HMP.out.2 (.inr hb2))
      rw [decide_eq_false hb1] at HL1
      rw [decide_eq_true hb2] at HL2
      clear hb1 hb2 HMP
      go_wp2_with (first
        | (go_at_call 136; (with_reducible refine (HL1.out _).mono ?_); rintro e w' ⟨rfl, hE⟩; replace x0 := hE.cell x0; replace E := E.trans hE; clear hE)
        | (go_at_call 136; (with_reducible refine (HL2.out _).mono ?_); rintro e w' ⟨rfl, hE⟩; replace x0 := hE.cell x0; replace E := E.trans hE; clear hE))
      go_ret2
      exact ⟨by rw [HE.out.1, HE.out.2]; rfl, E⟩
    have HE := Lib.hid (HMP.out.1 (fun h => h.elim hb1 hb2))
    rw [decide_eq_false hb1] at HL1
    rw [decide_eq_false hb2] at HL2
    clear HMP
    have a1 := app_txt [45] T
    have a2 := app_txt [47] D
    have a3 := app_txt T (47 :: D)
    have a4 := app_txt (45 :: T) (47 :: D)
    have l1 : ¬ 9223372036854775807 < 1 + T.length := by omega
    have l2 : ¬ 9223372036854775807 < 1 + D.length := by omega
    have l3 : ¬ 9223372036854775807 < T.length + (D.length + 1) := by omega
    have l4 : ¬ 9223372036854775807 < T.length + 1 + (D.length + 1) := by omega
    by_cases hD1 : D = [49]
    · have d1 : (D == [49]) = true := by rw [hD1]; rfl
      have HJD := Lib.hid hD1
      clear hD1
      cases s
      · have HJ : Hid (joinT false T D = T) := by show _ = _; unfold joinT; rw [if_pos HJD.out]; simp
        go_wp2_with (first
          | (go_at_call 136; (with_reducible refine (HL1.out _).mono ?_); rintro e w' ⟨rfl, hE⟩; replace x0 := hE.cell x0; replace E := E.trans hE; clear hE)
          | (go_at_call 136; (with_reducible refine (HL2.out _).mono ?_); rintro e w' ⟨rfl, hE⟩; replace x0 := hE.cell x0; replace E := E.trans hE; clear hE))
        go_ret2
        exact ⟨by rw [HE.out.1, HE.out.2, HJ.out]; rfl, E⟩
      · by_cases hT0 : T = [48]
        · have t1 : (T == [48]) = true := by rw [hT0]; rfl
          have HJ : Hid (joinT true T D = T) := by show _ = _; unfold joinT; rw [if_pos HJD.out, hT0]; simp
          clear hT0
          go_wp2_with (first
            | (go_at_call 136; (with_reducible refine (HL1.out _).mono ?_); rintro e w' ⟨rfl, hE⟩; replace x0 := hE.cell x0; replace E := E.trans hE; clear hE)
            | (go_at_call 136; (with_reducible refine (HL2.out _).mono ?_); rintro e w' ⟨rfl, hE⟩; replace x0 := hE.cell x0; replace E := E.trans hE; clear hE))
          go_ret2
          exact ⟨by rw [HE.out.1, HE.out.2, HJ.out]; rfl, E⟩
        · have t1 : (T == [48]) = false := by rw [beq_eq_false_iff_ne]; exact hT0
          have HJ : Hid (joinT true T D = 45 :: T) := by show _ = _; unfold joinT; rw [if_pos HJD.out, decide_eq_true hT0]; simp
          clear hT0
          go_wp2_with (first
            | (go_at_call 136; (with_reducible refine (HL1.out _).mono ?_); rintro e w' ⟨rfl, hE⟩; replace x0 := hE.cell x0; replace E := E.trans hE; clear hE)
            | (go_at_call 136; (with_reducible refine (HL2.out _).mono ?_); rintro e w' ⟨rfl, hE⟩; replace x0 := hE.cell x0; replace E := E.trans hE; clear hE))
          go_ret2
          exact ⟨by rw [HE.out.1, HE.out.2, HJ.out]; rfl, E⟩
    · have d1 : (D == [49]) = false := by rw [beq_eq_false_iff_ne]; exact hD1
      have HJD := Lib.hid hD1
      clear hD1
      cases s
      · have HJ : Hid (joinT false T D = T ++ 47 :: D) := by show _ = _; unfold joinT; rw [if_neg HJD.out]; simp
        go_wp2_with (first
          | (go_at_call 136; (with_reducible refine (HL1.out _).mono ?_); rintro e w' ⟨rfl, hE⟩; replace x0 := hE.cell x0; replace E := E.trans hE; clear hE)
          | (go_at_call 136; (with_reducible refine (HL2.out _).mono ?_); rintro e w' ⟨rfl, hE⟩; replace x0 := hE.cell x0; replace E := E.trans hE; clear hE))
        go_ret2
        exact ⟨by rw [HE.out.1, HE.out.2, HJ.out]; rfl, E⟩
      · by_cases hT0 : T = [48]
        · have t1 : (T == [48]) = true := by rw [hT0]; rfl
          have HJ : Hid (joinT true T D = T ++ 47 :: D) := by show _ = _; unfold joinT; rw [if_neg HJD.out, hT0]; simp
          clear hT0
          go_wp2_with (first
            | (go_at_call 136; (with_reducible refine (HL1.out _).mono ?_); rintro e w' ⟨rfl, hE⟩; replace x0 := hE.cell x0; replace E := E.trans hE; clear hE)
            | (go_at_call 136; (with_reducible refine (HL2.out _).mono ?_); rintro e w' ⟨rfl, hE⟩; replace x0 := hE.cell x0; replace E := E.trans hE; clear hE))
          go_ret2
          exact ⟨by rw [HE.out.1, HE.out.2, HJ.out]; rfl, E⟩
        · have t1 : (T == [48]) = false := by rw [beq_eq_false_iff_ne]; exact hT0
          have HJ : Hid (joinT true T D = (45 :: T) ++ 47 :: D) := by show _ = _; unfold joinT; rw [if_neg HJD.out, decide_eq_true hT0]; simp
          clear hT0
          go_wp2_with (first
            | (go_at_call 136; (with_reducible refine (HL1.out _).mono ?_); rintro e w' ⟨rfl, hE⟩; replace x0 := hE.cell x0; replace E := E.trans hE; clear hE)
            | (go_at_call 136; (with_reducible refine (HL2.out _).mono ?_); rintro e w' ⟨rfl, hE⟩; replace x0 := hE.cell x0; replace E := E.trans hE; clear hE))
          go_ret2
          exact ⟨by rw [HE.out.1, HE.out.2, HJ.out]; rfl, E⟩
end Go.Proofs.YtlhpfhnbeagnaaaGreatDoor
namespace Go.Proofs.YtlhpfhnbeagnaaaGreatDoor
open Go.RowKit
open Go.Lib (decDigits)
end Go.Proofs.YtlhpfhnbeagnaaaGreatDoor
namespace Go.Proofs.YtlhpfhnbeagnaaaGreatDoor
open Go.RowKit
open Go.Lib (decDigits)
def ResP (r : Res) (w : World) (e : Ending) (w' : World) : Prop := e = .returned (.tuple #[txt r.1, .int .i64 (r.2 : Nat)]) ∧ Ext w w'
end Go.Proofs.YtlhpfhnbeagnaaaGreatDoor
namespace Go.Proofs.YtlhpfhnbeagnaaaGreatDoor
open Go.RowKit
end Go.Proofs.YtlhpfhnbeagnaaaGreatDoor
namespace Go.Proofs.YtlhpfhnbeagnaaaGreatDoor
open Go.RowKit
open Go.Lib (decDigits itoa)
end Go.Proofs.YtlhpfhnbeagnaaaGreatDoor
