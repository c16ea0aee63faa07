/- Steps of the proof: ALSm, AOpnB, AOpnS. No conditions. -/
import Derived.Deep.Strs
import Derived.ProofKit
import Derived.OpenShut
import Derived.Lib.SmallJoins
import Derived.Deep.Slices
import Derived.Test.YtlnonmmaknhppaaGreatDoorZAB1
import Derived.Test.YtlnonmmaknhppaaGreatDoorZAB2
import Derived.Test.YtlnonmmaknhppaaGreatDoorZAB3
import Derived.Test.YtlnonmmaknhppaaGreatDoorZAB4
import Derived.Test.YtlnonmmaknhppaaGreatDoorZAB5
import Derived.Test.YtlnonmmaknhppaaGreatDoorZAB6
import Derived.Test.YtlnonmmaknhppaaGreatDoorZAB7
import Derived.Test.YtlnonmmaknhppaaGreatDoorZAB8
import Derived.Test.YtlnonmmaknhppaaGreatDoorZAB9
import Derived.Test.YtlnonmmaknhppaaGreatDoorZAB10
import Derived.Test.YtlnonmmaknhppaaGreatDoorZAB11
import Derived.Test.YtlnonmmaknhppaaGreatDoorZASum1
import Derived.Test.YtlnonmmaknhppaaGreatDoorZASum2
namespace Go.Proofs.YtlnonmmaknhppaaGreatDoor
open Go.RowKit
set_option maxHeartbeats 16000000 in
set_option maxRecDepth 100000 in
theorem lawSums_any (l : List Cyl) (ca : Option Addr) (cc : Nat) (n : Int) (st : List Stp) (a : Option Addr) (cap : Nat) (p : Int) (w : World) (hG : Glob w) (hc : CellsC w ca l) (h64 : ∀ c ∈ l, Cyl64 c) (hs : CellsP w a st) (hsl : st.length ≤ maxLen) :
    Calls Tryz.prog 10 #[.slice ca l.length cc, .agg #[.int .i64 n, .slice a st.length cap], .int .i64 p] w fun e w' => e = .returned (.bool true) ∧ Ext w w' := by
  have HG := Lib.hid hG
  have HA := Lib.hid (fun W (g : Ext w W) => awake5_any W (HG.out.ext g))
  have HFW := Lib.hid (fun W (g : Ext w W) => Few_any (.int .i64 n) st a cap W hsl (hs.ext g))
  have HAL := Lib.hid (fun W (g : Ext w W) (hl : l.length ≤ 100) => all_any l ca cc W hl (hc.ext g))
  have HX := fun ca' cc' W (g : Ext w W) (hl : l.length ≤ 100) (hcc : CellsC W ca' l) => aCycle_any l n st p ca' cc' a cap W (HG.out.ext g) (by omega) hcc (hs.ext g) hsl
  have HY := fun W (g : Ext w W) (hl : l.length ≤ 100) => rCycle_any l n st p ca cc a cap W (by omega) (hc.ext g) h64 (hs.ext g) hsl
  unfold CycP at HX HY
  generalize cycS l n st p = R at HX HY
  obtain ⟨⟨r1, r2⟩, rn⟩ := R
  dsimp only [encV] at HX HY
  replace HX := Lib.hid HX
  replace HY := Lib.hid HY
  clear hG hc hs h64
  have c0 : ((w.alloc (.cells #[.int .i64 n, .slice a st.length cap] 71))).cell? ⟨w.heap.size, 0, none⟩ = some (.int .i64 n) := by go_simp
  have c1 : ((w.alloc (.cells #[.int .i64 n, .slice a st.length cap] 71))).cell? ⟨w.heap.size, 1, none⟩ = some (.slice a st.length cap) := by go_simp
  have E : Ext w (w.alloc (.cells #[.int .i64 n, .slice a st.length cap] 71)) := extA
  unfold maxLen at hsl
  by_cases h1 : 40 < l.length
  · have k1 : (40 : Int) < (l.length : Int) := by omega
    go_enter Tryz.func10, Tryz.ntmps10
    go_wp2_with (go_at_call 13; refine (HA.out _ E).mono ?_; rintro e wz ⟨rfl, hE⟩)
    go_ret
    exact ⟨rfl, E.trans hE⟩
  have k1 : ¬ (40 : Int) < (l.length : Int) := by omega
  have hl100 : l.length ≤ 100 := by omega
  generalize fewB st = fw at HFW
  cases fw
  · go_enter Tryz.func10, Tryz.ntmps10
    go_wp2_with fail
    generalize (w.alloc (.cells #[.int .i64 n, .slice a st.length cap] 71)) = w0 at c0 c1 E ⊢
    refine (HFW.out _ E).mono ?_
    rintro e w1 ⟨rfl, hE⟩
    replace E := E.trans hE
    clear hE
    go_wp2_with (go_at_call 13; refine (HA.out _ E).mono ?_; rintro e wz ⟨rfl, hE⟩)
    go_ret
    exact ⟨rfl, E.trans hE⟩
  by_cases h2 : 10 < st.length ∧ st.length ≤ 64
  · have k2 : (10 : Int) < (st.length : Int) := by omega
    have k3 : (st.length : Int) ≤ 64 := by omega
    go_enter Tryz.func10, Tryz.ntmps10
    go_wp2_with fail
    generalize (w.alloc (.cells #[.int .i64 n, .slice a st.length cap] 71)) = w0 at c0 c1 E ⊢
    refine (HFW.out _ E).mono ?_
    rintro e w1 ⟨rfl, hE⟩
    replace E := E.trans hE
    have c0 := (hE).cell c0
    have c1 := (hE).cell c1
    have z0 := cell_lt c0
    dsimp only at z0
    clear hE
    go_wp2_with (go_at_call 13; refine (HA.out _ E).mono ?_; rintro e wz ⟨rfl, hE⟩)
    go_ret
    exact ⟨rfl, E.trans hE⟩
  have k23 : (¬ (10 : Int) < (st.length : Int)) ∨ ((10 : Int) < (st.length : Int) ∧ ¬ ((st.length : Int) ≤ 64)) := by omega
  clear h2
  rcases k23 with k2 | ⟨k2, k3⟩
  all_goals
    go_enter Tryz.func10, Tryz.ntmps10
    go_wp2_with fail
    generalize (w.alloc (.cells #[.int .i64 n, .slice a st.length cap] 71)) = w0 at c0 c1 E ⊢
    refine (HFW.out _ E).mono ?_
    rintro e w1 ⟨rfl, hE⟩
    replace E := E.trans hE
    have c0 := (hE).cell c0
    have c1 := (hE).cell c1
    have z0 := cell_lt c0
    dsimp only at z0
    clear hE
    go_wp2_with fail
    have hS : Ext w1 w1.drew := extA
    refine wp_region_heldE 9 (Ext w1) (by kernel_rfl) ?_
    generalize w1.drew = v0 at hS ⊢
    ((refine ePu 0 ?_); (refine ePu 3 ?_))
    (refine wpAnyE_take (oi := ?_) (v := ?_) (i := 2) ?_ (by kernel_rfl) ?_ ?_ (by assumption) ?_; rotate_left 2; (focus ((simp only [List.getElem?_toArray, List.getElem?_cons_succ, List.getElem?_cons_zero]; exact rfl))); (focus (exact fun _ _ _ h => h)); (focus (refine Or.inl ⟨by rfl, ?_⟩; intro w hSw; have hc0 := hSw.cell c0; have zc0 := cell_lt hc0; dsimp only at zc0; have hc1 := hSw.cell c1; have zc1 := cell_lt hc1; dsimp only at zc1; (first | (go_simp; done) | (go_simp; with_reducible rfl)))); (try simp only [Act.put, List.setIfInBounds_toArray, List.set_cons_zero, List.set_cons_succ]))
    refine wpAnyE_two (i := 1) (j := 8) (o := ?_) (p := ?_) (by (simp only [List.getElem?_toArray, List.getElem?_cons_succ, List.getElem?_cons_zero]; exact rfl)) (by (simp only [List.getElem?_toArray, List.getElem?_cons_succ, List.getElem?_cons_zero]; exact rfl)) (by kernel_rfl) (fun K hK => ?_) (fun K hK => ?_)
    · skip
      go_simp
      refine (HAL.out _ (E.trans hS) hl100).mono ?_
      rintro e v0 ⟨v, rfl, hO, hE⟩
      obtain ⟨ca2, cc2, rfl, hcc, _⟩ := hO.reads
      replace hcc := Lib.hid hcc
      clear hO
      go_wp2_with fail
      refine hK.out _ _ (hS.trans hE) (fun hHeld => ?_)
      clear hK K hHeld
      (try simp only [Act.put, List.setIfInBounds_toArray, List.set_cons_zero, List.set_cons_succ])
      replace hS := hS.trans hE
      clear hE
      refine wpAnyE_two (i := 4) (j := 8) (o := ?_) (p := ?_) (by (simp only [List.getElem?_toArray, List.getElem?_cons_succ, List.getElem?_cons_zero]; exact rfl)) (by (simp only [List.getElem?_toArray, List.getElem?_cons_succ, List.getElem?_cons_zero]; exact rfl)) (by kernel_rfl) (fun K hK => ?_) (fun K hK => ?_)
      · skip
        go_simp
        refine (HX.out _ _ _ (E.trans hS) hl100 hcc.out).mono ?_
        clear hcc
        rintro e v0 ⟨rfl, hE⟩
        go_wp2_with fail
        refine hK.out _ _ (hS.trans hE) (fun hHeld => ?_)
        clear hK K hHeld
        (try simp only [Act.put, List.setIfInBounds_toArray, List.set_cons_zero, List.set_cons_succ])
        replace hS := hS.trans hE
        clear hE
        ((refine ePu 5 ?_); (refine ePu 6 ?_); (refine ePu 7 ?_))
        refine wpAnyE_one (i := 8) (o := ?_) ?_ (by kernel_rfl) (fun K hK => ?_)
        rotate_left
        · (simp only [List.getElem?_toArray, List.getElem?_cons_succ, List.getElem?_cons_zero]; exact rfl)
        have hE : Ext v0 (v0.alloc (.cells #[.string ⟨#[]⟩, .string ⟨#[]⟩] 35)) := extA
        have X : EncAt v0.heap.size (v0.alloc (.cells #[.string ⟨#[]⟩, .string ⟨#[]⟩] 35)) [] [] := ⟨by go_simp, by go_simp, by go_simp, by go_simp⟩
        obtain ⟨xb, hxb⟩ : ∃ q, q = v0.heap.size := ⟨_, rfl⟩
        have hxw : w1.heap.size ≤ xb := by rw [hxb]; exact hS.size
        go_simp
        refine hK.out _ _ (hS.trans hE) (fun hHeld => ?_)
        clear hK K hHeld
        (try simp only [Act.put, List.setIfInBounds_toArray, List.set_cons_zero, List.set_cons_succ])
        rw [← hxb] at X ⊢
        clear hxb
        replace hS := hS.trans hE
        clear hE
        generalize (v0.alloc (.cells #[.string ⟨#[]⟩, .string ⟨#[]⟩] 35)) = v0 at X hS ⊢
        have E2 := E.trans hS
        have X2 := (X.set0 r1).set1 r2
        have E3 := (E2.set (b := xb) (o := 0) (by have := E.size; omega) (txt r1)).set (b := xb) (o := 1) (by have := E.size; omega) (txt r2)
        have c0 := hS.cell c0
        have c1 := hS.cell c1
        have hxn : w.heap.size ≠ xb := by have := cell_lt c0; have := E.size; omega
        have c0 : ((v0.setCell ⟨xb, 0, none⟩ (txt r1)).setCell ⟨xb, 1, none⟩ (txt r2)).cell? ⟨w.heap.size, 0, none⟩ = some (.int .i64 n) := by
          rw [World.cell?_setCell_other _ _ _ _ (fun h => by simp only [Addr.mk.injEq] at h; omega), World.cell?_setCell_other _ _ _ _ (fun h => by simp only [Addr.mk.injEq] at h; omega)]; exact c0
        have c1 : ((v0.setCell ⟨xb, 0, none⟩ (txt r1)).setCell ⟨xb, 1, none⟩ (txt r2)).cell? ⟨w.heap.size, 1, none⟩ = some (.slice a st.length cap) := by
          rw [World.cell?_setCell_other _ _ _ _ (fun h => by simp only [Addr.mk.injEq] at h; omega), World.cell?_setCell_other _ _ _ _ (fun h => by simp only [Addr.mk.injEq] at h; omega)]; exact c1
        obtain ⟨x0, x1, f0, f1⟩ := X
        have zx := cell_lt x0
        dsimp only at zx
        (refine wpAnyE_free (i := 9) (o := ?_) ?_ (by kernel_rfl) (by kernel_rfl) (fun K hK => ?_); rotate_left; (focus ((simp only [List.getElem?_toArray, List.getElem?_cons_succ, List.getElem?_cons_zero]; exact rfl))); go_simp; refine hK.out _ _ ?_; clear hK K; (try simp only [Act.put, List.setIfInBounds_toArray, List.set_cons_zero, List.set_cons_succ]))
        (refine ePu 10 ?_)
        refine wpAnyE_done (by kernel_rfl) ?_ _
        clear x0 x1 f0 f1 zx z0 hxw hS E2
        generalize ((v0.setCell ⟨xb, 0, none⟩ (txt r1)).setCell ⟨xb, 1, none⟩ (txt r2)) = w3 at X2 E3 c0 c1 ⊢
        have z0 := cell_lt c0
        dsimp only at z0
        go_wp2_with fail
        refine (HY.out _ E3 hl100).mono ?_
        rintro e w4 ⟨rfl, hE⟩
        replace X2 := X2.ext hE
        replace E3 := E3.trans hE
        clear hE
        have Y : EncAt w4.heap.size (w4.alloc (.cells #[txt r1, txt r2] 35)) r1 r2 := ⟨by go_simp, by go_simp, by go_simp, by go_simp⟩
        have EA : Ext w4 (w4.alloc (.cells #[txt r1, txt r2] 35)) := extA
        go_wp2_with fail
        replace X2 := X2.ext EA
        replace E3 := E3.trans EA
        clear EA
        obtain ⟨yb, hyb⟩ : ∃ q, q = w4.heap.size := ⟨_, rfl⟩
        rw [← hyb] at Y ⊢
        clear hyb
        generalize (w4.alloc (.cells #[txt r1, txt r2] 35)) = w5 at X2 Y E3 ⊢
        refine (HA.out _ E3).mono ?_
        rintro e w6 ⟨rfl, hE⟩
        obtain ⟨x0, x1, f0, f1⟩ := X2.ext hE
        obtain ⟨y0, y1, g0, g1⟩ := Y.ext hE
        have zx := cell_lt x0
        have zy := cell_lt y0
        dsimp only at zx zy
        clear c0 c1 z0
        go_wp2
        go_ret
        exact ⟨rfl, E3.trans hE⟩
      · skip
        have hE : Ext v0 (v0.alloc (.cells #[.string ⟨#[]⟩, .string ⟨#[]⟩] 35)) := extA
        have X : EncAt v0.heap.size (v0.alloc (.cells #[.string ⟨#[]⟩, .string ⟨#[]⟩] 35)) [] [] := ⟨by go_simp, by go_simp, by go_simp, by go_simp⟩
        obtain ⟨xb, hxb⟩ : ∃ q, q = v0.heap.size := ⟨_, rfl⟩
        have hxw : w1.heap.size ≤ xb := by rw [hxb]; exact hS.size
        go_simp
        refine hK.out _ _ (hS.trans hE) (fun hHeld => ?_)
        clear hK K hHeld
        (try simp only [Act.put, List.setIfInBounds_toArray, List.set_cons_zero, List.set_cons_succ])
        replace hcc := Lib.hid (hcc.out.ext hE)
        rw [← hxb] at X ⊢
        clear hxb
        replace hS := hS.trans hE
        clear hE
        generalize (v0.alloc (.cells #[.string ⟨#[]⟩, .string ⟨#[]⟩] 35)) = v0 at X hS hcc ⊢
        refine wpAnyE_one (i := 4) (o := ?_) ?_ (by kernel_rfl) (fun K hK => ?_)
        rotate_left
        · (simp only [List.getElem?_toArray, List.getElem?_cons_succ, List.getElem?_cons_zero]; exact rfl)
        go_simp
        refine (HX.out _ _ _ (E.trans hS) hl100 hcc.out).mono ?_
        clear hcc
        rintro e v0 ⟨rfl, hE⟩
        go_wp2_with fail
        refine hK.out _ _ (hS.trans hE) (fun hHeld => ?_)
        clear hK K hHeld
        (try simp only [Act.put, List.setIfInBounds_toArray, List.set_cons_zero, List.set_cons_succ])
        replace X := X.ext hE
        replace hS := hS.trans hE
        clear hE
        ((refine ePu 5 ?_); (refine ePu 6 ?_); (refine ePu 7 ?_))
        have E2 := E.trans hS
        have X2 := (X.set0 r1).set1 r2
        have E3 := (E2.set (b := xb) (o := 0) (by have := E.size; omega) (txt r1)).set (b := xb) (o := 1) (by have := E.size; omega) (txt r2)
        have c0 := hS.cell c0
        have c1 := hS.cell c1
        have hxn : w.heap.size ≠ xb := by have := cell_lt c0; have := E.size; omega
        have c0 : ((v0.setCell ⟨xb, 0, none⟩ (txt r1)).setCell ⟨xb, 1, none⟩ (txt r2)).cell? ⟨w.heap.size, 0, none⟩ = some (.int .i64 n) := by
          rw [World.cell?_setCell_other _ _ _ _ (fun h => by simp only [Addr.mk.injEq] at h; omega), World.cell?_setCell_other _ _ _ _ (fun h => by simp only [Addr.mk.injEq] at h; omega)]; exact c0
        have c1 : ((v0.setCell ⟨xb, 0, none⟩ (txt r1)).setCell ⟨xb, 1, none⟩ (txt r2)).cell? ⟨w.heap.size, 1, none⟩ = some (.slice a st.length cap) := by
          rw [World.cell?_setCell_other _ _ _ _ (fun h => by simp only [Addr.mk.injEq] at h; omega), World.cell?_setCell_other _ _ _ _ (fun h => by simp only [Addr.mk.injEq] at h; omega)]; exact c1
        obtain ⟨x0, x1, f0, f1⟩ := X
        have zx := cell_lt x0
        dsimp only at zx
        (refine wpAnyE_free (i := 9) (o := ?_) ?_ (by kernel_rfl) (by kernel_rfl) (fun K hK => ?_); rotate_left; (focus ((simp only [List.getElem?_toArray, List.getElem?_cons_succ, List.getElem?_cons_zero]; exact rfl))); go_simp; refine hK.out _ _ ?_; clear hK K; (try simp only [Act.put, List.setIfInBounds_toArray, List.set_cons_zero, List.set_cons_succ]))
        (refine ePu 10 ?_)
        refine wpAnyE_done (by kernel_rfl) ?_ _
        clear x0 x1 f0 f1 zx z0 hxw hS E2
        generalize ((v0.setCell ⟨xb, 0, none⟩ (txt r1)).setCell ⟨xb, 1, none⟩ (txt r2)) = w3 at X2 E3 c0 c1 ⊢
        have z0 := cell_lt c0
        dsimp only at z0
        go_wp2_with fail
        refine (HY.out _ E3 hl100).mono ?_
        rintro e w4 ⟨rfl, hE⟩
        replace X2 := X2.ext hE
        replace E3 := E3.trans hE
        clear hE
        have Y : EncAt w4.heap.size (w4.alloc (.cells #[txt r1, txt r2] 35)) r1 r2 := ⟨by go_simp, by go_simp, by go_simp, by go_simp⟩
        have EA : Ext w4 (w4.alloc (.cells #[txt r1, txt r2] 35)) := extA
        go_wp2_with fail
        replace X2 := X2.ext EA
        replace E3 := E3.trans EA
        clear EA
        obtain ⟨yb, hyb⟩ : ∃ q, q = w4.heap.size := ⟨_, rfl⟩
        rw [← hyb] at Y ⊢
        clear hyb
        generalize (w4.alloc (.cells #[txt r1, txt r2] 35)) = w5 at X2 Y E3 ⊢
        refine (HA.out _ E3).mono ?_
        rintro e w6 ⟨rfl, hE⟩
        obtain ⟨x0, x1, f0, f1⟩ := X2.ext hE
        obtain ⟨y0, y1, g0, g1⟩ := Y.ext hE
        have zx := cell_lt x0
        have zy := cell_lt y0
        dsimp only at zx zy
        clear c0 c1 z0
        go_wp2
        go_ret
        exact ⟨rfl, E3.trans hE⟩
    · skip
      have hE : Ext v0 (v0.alloc (.cells #[.string ⟨#[]⟩, .string ⟨#[]⟩] 35)) := extA
      have X : EncAt v0.heap.size (v0.alloc (.cells #[.string ⟨#[]⟩, .string ⟨#[]⟩] 35)) [] [] := ⟨by go_simp, by go_simp, by go_simp, by go_simp⟩
      obtain ⟨xb, hxb⟩ : ∃ q, q = v0.heap.size := ⟨_, rfl⟩
      have hxw : w1.heap.size ≤ xb := by rw [hxb]; exact hS.size
      go_simp
      refine hK.out _ _ (hS.trans hE) (fun hHeld => ?_)
      clear hK K hHeld
      (try simp only [Act.put, List.setIfInBounds_toArray, List.set_cons_zero, List.set_cons_succ])
      rw [← hxb] at X ⊢
      clear hxb
      replace hS := hS.trans hE
      clear hE
      generalize (v0.alloc (.cells #[.string ⟨#[]⟩, .string ⟨#[]⟩] 35)) = v0 at X hS ⊢
      refine wpAnyE_one (i := 1) (o := ?_) ?_ (by kernel_rfl) (fun K hK => ?_)
      rotate_left
      · (simp only [List.getElem?_toArray, List.getElem?_cons_succ, List.getElem?_cons_zero]; exact rfl)
      go_simp
      refine (HAL.out _ (E.trans hS) hl100).mono ?_
      rintro e v0 ⟨v, rfl, hO, hE⟩
      obtain ⟨ca2, cc2, rfl, hcc, _⟩ := hO.reads
      replace hcc := Lib.hid hcc
      clear hO
      go_wp2_with fail
      refine hK.out _ _ (hS.trans hE) (fun hHeld => ?_)
      clear hK K hHeld
      (try simp only [Act.put, List.setIfInBounds_toArray, List.set_cons_zero, List.set_cons_succ])
      replace X := X.ext hE
      replace hS := hS.trans hE
      clear hE
      refine wpAnyE_one (i := 4) (o := ?_) ?_ (by kernel_rfl) (fun K hK => ?_)
      rotate_left
      · (simp only [List.getElem?_toArray, List.getElem?_cons_succ, List.getElem?_cons_zero]; exact rfl)
      go_simp
      refine (HX.out _ _ _ (E.trans hS) hl100 hcc.out).mono ?_
      clear hcc
      rintro e v0 ⟨rfl, hE⟩
      go_wp2_with fail
      refine hK.out _ _ (hS.trans hE) (fun hHeld => ?_)
      clear hK K hHeld
      (try simp only [Act.put, List.setIfInBounds_toArray, List.set_cons_zero, List.set_cons_succ])
      replace X := X.ext hE
      replace hS := hS.trans hE
      clear hE
      ((refine ePu 5 ?_); (refine ePu 6 ?_); (refine ePu 7 ?_))
      have E2 := E.trans hS
      have X2 := (X.set0 r1).set1 r2
      have E3 := (E2.set (b := xb) (o := 0) (by have := E.size; omega) (txt r1)).set (b := xb) (o := 1) (by have := E.size; omega) (txt r2)
      have c0 := hS.cell c0
      have c1 := hS.cell c1
      have hxn : w.heap.size ≠ xb := by have := cell_lt c0; have := E.size; omega
      have c0 : ((v0.setCell ⟨xb, 0, none⟩ (txt r1)).setCell ⟨xb, 1, none⟩ (txt r2)).cell? ⟨w.heap.size, 0, none⟩ = some (.int .i64 n) := by
        rw [World.cell?_setCell_other _ _ _ _ (fun h => by simp only [Addr.mk.injEq] at h; omega), World.cell?_setCell_other _ _ _ _ (fun h => by simp only [Addr.mk.injEq] at h; omega)]; exact c0
      have c1 : ((v0.setCell ⟨xb, 0, none⟩ (txt r1)).setCell ⟨xb, 1, none⟩ (txt r2)).cell? ⟨w.heap.size, 1, none⟩ = some (.slice a st.length cap) := by
        rw [World.cell?_setCell_other _ _ _ _ (fun h => by simp only [Addr.mk.injEq] at h; omega), World.cell?_setCell_other _ _ _ _ (fun h => by simp only [Addr.mk.injEq] at h; omega)]; exact c1
      obtain ⟨x0, x1, f0, f1⟩ := X
      have zx := cell_lt x0
      dsimp only at zx
      (refine wpAnyE_free (i := 9) (o := ?_) ?_ (by kernel_rfl) (by kernel_rfl) (fun K hK => ?_); rotate_left; (focus ((simp only [List.getElem?_toArray, List.getElem?_cons_succ, List.getElem?_cons_zero]; exact rfl))); go_simp; refine hK.out _ _ ?_; clear hK K; (try simp only [Act.put, List.setIfInBounds_toArray, List.set_cons_zero, List.set_cons_succ]))
      (refine ePu 10 ?_)
      refine wpAnyE_done (by kernel_rfl) ?_ _
      clear x0 x1 f0 f1 zx z0 hxw hS E2
      generalize ((v0.setCell ⟨xb, 0, none⟩ (txt r1)).setCell ⟨xb, 1, none⟩ (txt r2)) = w3 at X2 E3 c0 c1 ⊢
      have z0 := cell_lt c0
      dsimp only at z0
      go_wp2_with fail
      refine (HY.out _ E3 hl100).mono ?_
      rintro e w4 ⟨rfl, hE⟩
      replace X2 := X2.ext hE
      replace E3 := E3.trans hE
      clear hE
      have Y : EncAt w4.heap.size (w4.alloc (.cells #[txt r1, txt r2] 35)) r1 r2 := ⟨by go_simp, by go_simp, by go_simp, by go_simp⟩
      have EA : Ext w4 (w4.alloc (.cells #[txt r1, txt r2] 35)) := extA
      go_wp2_with fail
      replace X2 := X2.ext EA
      replace E3 := E3.trans EA
      clear EA
      obtain ⟨yb, hyb⟩ : ∃ q, q = w4.heap.size := ⟨_, rfl⟩
      rw [← hyb] at Y ⊢
      clear hyb
      generalize (w4.alloc (.cells #[txt r1, txt r2] 35)) = w5 at X2 Y E3 ⊢
      refine (HA.out _ E3).mono ?_
      rintro e w6 ⟨rfl, hE⟩
      obtain ⟨x0, x1, f0, f1⟩ := X2.ext hE
      obtain ⟨y0, y1, g0, g1⟩ := Y.ext hE
      have zx := cell_lt x0
      have zy := cell_lt y0
      dsimp only at zx zy
      clear c0 c1 z0
      go_wp2
      go_ret
      exact ⟨rfl, E3.trans hE⟩
end Go.Proofs.YtlnonmmaknhppaaGreatDoor
namespace Go.Proofs.YtlnonmmaknhppaaGreatDoor
open Go.RowKit Go.ChangeShapes Go.WideShapes Go.Joins Go.Deep
theorem cellsOfInt : Tryz.prog.cellsOf 3 = 1 := by kernel_rfl
theorem cellsOfCyl : Tryz.prog.cellsOf 46 = 3 := by kernel_rfl
theorem list3 {α : Type} {l : List α} (h : l.length = 3) : ∃ a b c, l = [a, b, c] := by
  match l, h with
  | [a, b, c], _ => exact ⟨a, b, c, rfl⟩
section
variable {H : Type} {enc : TypeId × Value → H} {w : World} {base : Nat} {spare : Nat → Bool} {held : Bool}
theorem open_cy {fuel : Nat} {cs : List Value} {x : DataW H × List MemPlace} (h : DataW.trod enc Tryz.prog w base spare held fuel 46 cs = some x) : ∃ c : Cyl, cs = [.int .i64 c.bore, .int .i64 c.rod, .int .i64 c.stroke] ∧ Cyl64 c := by
  obtain ⟨y0, y1, y2, n, _, hl, h0, h1, h2⟩ := trod_struct3 Tryz.underlying46 h
  rw [cellsOfCyl] at hl
  obtain ⟨a, b, c, rfl⟩ := list3 hl
  rw [cellsOfInt] at h0 h1 h2
  obtain ⟨i, e0, _, k0⟩ := DataW.trod_int Tryz.underlying3 h0
  obtain ⟨j, e1, _, _⟩ := DataW.trod_int Tryz.underlying3 h1
  obtain ⟨k, e2, _, _⟩ := DataW.trod_int Tryz.underlying3 h2
  simp at e0 e1 e2
  subst e0; subst e1; subst e2
  exact ⟨⟨i, j, k⟩, rfl, i64_bd k0⟩
theorem open_cellsC {a : Addr} {len : Nat} (h : ∀ i, i < len → ∃ cs' n x, w.cells? base (a.add (i * 3)) 3 = some cs' ∧ DataW.trod enc Tryz.prog w base spare held n 46 cs' = some x) : ∃ l : List Cyl, l.length = len ∧ CellsC w (some a) l ∧ ∀ c ∈ l, Cyl64 c := by
  have key : ∀ i, i < len → ∃ y : Cyl, w.cell? (a.add (i * 3)) = some (.int .i64 y.bore) ∧ w.cell? ((a.add (i * 3)).add 1) = some (.int .i64 y.rod) ∧ w.cell? ((a.add (i * 3)).add 2) = some (.int .i64 y.stroke) ∧ Cyl64 y := fun i hi => by
    obtain ⟨cs', n, x, h1, h2⟩ := h i hi
    obtain ⟨y, rfl, hy⟩ := open_cy h2
    obtain ⟨_, _, hc⟩ := World.cells?_some h1
    have c0 := hc 0 (by omega)
    have c1 := hc 1 (by omega)
    have c2 := hc 2 (by omega)
    refine ⟨y, ?_, c1, c2, hy⟩
    have e : (a.add (i * 3)).add 0 = a.add (i * 3) := by simp [Addr.add]
    rw [e] at c0
    exact c0
  haveI : Inhabited Cyl := ⟨cyl0⟩
  obtain ⟨f, hf⟩ := choose_lt (α := Cyl) key
  refine ⟨(List.range len).map f, by simp, fun i hi => ?_, fun c hc => ?_⟩
  · have hi' : i < len := by simpa using hi
    obtain ⟨h1, h2, h3, _⟩ := hf i hi'
    have hp : ((List.range len).map f).getD i cyl0 = f i := by simp [List.getD, hi']
    rw [hp]
    obtain ⟨b, off, spot⟩ := a
    have hs : spot = none := by
      have h0 := World.cell?_spot (hf 0 (by omega)).1
      simpa [Addr.add] using h0
    subst hs
    rw [Addr.add_lit] at h1 h2 h3
    rw [Addr.add_lit] at h2 h3
    exact ⟨b, off, rfl, h1, h2, h3⟩
  · simp only [List.mem_map, List.mem_range] at hc
    obtain ⟨i, hi, rfl⟩ := hc
    exact (hf i hi).2.2.2
set_option maxRecDepth 100000 in
theorem open_cyls {r : Reach} {b0 : Nat} {v : Value} {d : DataW H} {p : List MemPlace} (hv : Value.okWide Tryz.prog w r b0 68 v) (h : DataW.Trod enc Tryz.prog w base spare held 68 v d p) :
    ∃ (l : List Cyl) (a : Option Addr) (cap : Nat), v = .slice a l.length cap ∧ CellsC w a l ∧ (∀ c ∈ l, Cyl64 c) ∧ l.length ≤ cap ∧ cap ≤ maxLen := by
  have key : v.cells.toList = [v] := by
    simp only [Value.okWide, Tryz.underlying68] at hv
    cases v <;> first | rfl | (simp [Cell.okWide, Cell.ok, Tryz.underlying68] at hv)
  obtain ⟨fuel, hf⟩ := h
  rw [key] at hf
  rcases open_slice Tryz.underlying68 hf with ⟨h1, _⟩ | ⟨a, len, cap, m, n, D, Pl, h1, hb, hl, hm, hmm, _, hx⟩
  · simp at h1
    exact ⟨[], none, 0, h1, (fun i hi => by simp at hi), (fun c hc => by cases hc), by simp, by simp⟩
  · simp at h1
    rw [cellsOfCyl] at hx
    have hlm : len ≤ m := by rw [hmm]; split <;> omega
    obtain ⟨l, hll, hc, h64⟩ := open_cellsC (enc := enc) (spare := spare) (held := held) (w := w) (base := base) (a := a) (len := len) (fun i hi => by
      obtain ⟨cs', h2, h3⟩ := hx i (by omega)
      exact ⟨cs', n, _, h2, h3⟩)
    exact ⟨l, some a, cap, by rw [h1, hll], hc, h64, by rw [hll]; exact hl, hm⟩
end
end Go.Proofs.YtlnonmmaknhppaaGreatDoor
namespace Go.Proofs.YtlnonmmaknhppaaGreatDoor
open Go.RowKit Go.ChangeShapes Go.WideShapes Go.Joins Go.Deep
theorem list2 {α : Type} {l : List α} (h : l.length = 2) : ∃ a b, l = [a, b] := by
  match l, h with
  | [a, b], _ => exact ⟨a, b, rfl⟩
theorem cellsOfStk : Tryz.prog.cellsOf 84 = 2 := by kernel_rfl
theorem cellsOfStp : Tryz.prog.cellsOf 128 = 2 := by kernel_rfl
theorem cellsOfBool : Tryz.prog.cellsOf 4 = 1 := by kernel_rfl
theorem cellsOfSlk : Tryz.prog.cellsOf 81 = 1 := by kernel_rfl
section
variable {H : Type} {enc : TypeId × Value → H} {w : World} {base : Nat} {spare : Nat → Bool} {held : Bool}
theorem open_stk {fuel : Nat} {cs : List Value} {x : DataW H × List MemPlace} (h : DataW.trod enc Tryz.prog w base spare held fuel 84 cs = some x) : ∃ y : Stk, cs = [.int .i64 y.1, .bool y.2] := by
  obtain ⟨y0, y1, n, _, hl, h0, h1⟩ := trod_struct2 Tryz.underlying84 h
  rw [cellsOfStk] at hl
  obtain ⟨a, b, rfl⟩ := list2 hl
  rw [cellsOfInt] at h0
  rw [cellsOfBool] at h1
  obtain ⟨i, e0, _, w0⟩ := DataW.trod_int Tryz.underlying3 h0
  obtain ⟨j, e1, _⟩ := DataW.trod_bool Tryz.underlying4 h1
  simp at e0 e1
  subst e0; subst e1
  exact ⟨(i, j), rfl⟩
theorem open_stks {a : Addr} {len : Nat} (h : ∀ i, i < len → ∃ cs' n x, w.cells? base (a.add (i * 2)) 2 = some cs' ∧ DataW.trod enc Tryz.prog w base spare held n 84 cs' = some x) : ∃ l : List Stk, l.length = len ∧ CellsK w (some a) l := by
  have key : ∀ i, i < len → ∃ y : Stk, w.cell? (a.add (i * 2)) = some (.int .i64 y.1) ∧ w.cell? ((a.add (i * 2)).add 1) = some (.bool y.2) := fun i hi => by
    obtain ⟨cs', n, x, h1, h2⟩ := h i hi
    obtain ⟨y, rfl⟩ := open_stk h2
    obtain ⟨_, _, hc⟩ := World.cells?_some h1
    have c0 := hc 0 (by omega)
    have c1 := hc 1 (by omega)
    refine ⟨y, ?_, c1⟩
    have e : (a.add (i * 2)).add 0 = a.add (i * 2) := by simp [Addr.add]
    rw [e] at c0
    exact c0
  obtain ⟨f, hf⟩ := choose_lt (α := Stk) key
  refine ⟨(List.range len).map f, by simp, fun i hi => ?_⟩
  have hi' : i < len := by simpa using hi
  obtain ⟨h1, h2⟩ := hf i hi'
  have hp : ((List.range len).map f).getD i stk0 = f i := by simp [List.getD, hi']
  rw [hp]
  obtain ⟨b, off, spot⟩ := a
  have hs : spot = none := by
    have h0 := World.cell?_spot (hf 0 (by omega)).1
    simpa [Addr.add] using h0
  subst hs
  rw [Addr.add_lit] at h1 h2
  rw [Addr.add_lit] at h2
  exact ⟨b, off, rfl, h1, h2⟩
theorem open_slk {fuel : Nat} {v : Value} {x : DataW H × List MemPlace} (h : DataW.trod enc Tryz.prog w base spare held fuel 81 [v] = some x) : ∃ l : List Stk, SliceK w v l := by
  rcases open_slice Tryz.underlying81 h with ⟨h1, _⟩ | ⟨a, len, cap, m, n, D, Pl, h1, hb, hl, hm, hmm, _, hx⟩
  · simp at h1
    exact ⟨[], none, 0, h1, fun i hi => by simp at hi, by simp⟩
  · simp at h1
    rw [cellsOfStk] at hx
    have hlm : len ≤ m := by rw [hmm]; split <;> omega
    obtain ⟨l, hll, hc⟩ := open_stks (enc := enc) (spare := spare) (held := held) (w := w) (base := base) (a := a) (len := len) (fun i hi => by
      obtain ⟨cs', h2, h3⟩ := hx i (by omega)
      exact ⟨cs', n, _, h2, h3⟩)
    exact ⟨l, some a, cap, by rw [h1, hll], hc, by rw [hll]; omega⟩
theorem open_stp {fuel : Nat} {cs : List Value} {x : DataW H × List MemPlace} (h : DataW.trod enc Tryz.prog w base spare held fuel 128 cs = some x) : ∃ (v : Value) (y : Stp), cs = [v, .int .i64 y.2] ∧ SliceK w v y.1 := by
  obtain ⟨y0, y1, n, _, hl, h0, h1⟩ := trod_struct2 Tryz.underlying128 h
  rw [cellsOfStp] at hl
  obtain ⟨a, b, rfl⟩ := list2 hl
  rw [cellsOfInt] at h1
  rw [cellsOfSlk] at h0
  obtain ⟨i, e1, _, w0⟩ := DataW.trod_int Tryz.underlying3 h1
  obtain ⟨l, hv⟩ := open_slk (v := a) (by simpa using h0)
  simp at e1
  subst e1
  exact ⟨a, (l, i), rfl, hv⟩
theorem open_stps {a : Addr} {len : Nat} (h : ∀ i, i < len → ∃ cs' n x, w.cells? base (a.add (i * 2)) 2 = some cs' ∧ DataW.trod enc Tryz.prog w base spare held n 128 cs' = some x) : ∃ l : List Stp, l.length = len ∧ CellsP w (some a) l ∧ (0 < len → a.spot = none) := by
  have key : ∀ i, i < len → ∃ y : Value × Stp, w.cell? (a.add (i * 2)) = some y.1 ∧ w.cell? ((a.add (i * 2)).add 1) = some (.int .i64 y.2.2) ∧ SliceK w y.1 y.2.1 := fun i hi => by
    obtain ⟨cs', n, x, h1, h2⟩ := h i hi
    obtain ⟨v, y, rfl, hv⟩ := open_stp h2
    obtain ⟨_, _, hc⟩ := World.cells?_some h1
    have c0 := hc 0 (by omega)
    have c1 := hc 1 (by omega)
    refine ⟨(v, y), ?_, c1, hv⟩
    have e : (a.add (i * 2)).add 0 = a.add (i * 2) := by simp [Addr.add]
    rw [e] at c0
    exact c0
  obtain ⟨f, hf⟩ := choose_lt (α := Value × Stp) key
  have hs : 0 < len → a.spot = none := fun h0 => by
    have h0 := World.cell?_spot (hf 0 h0).1
    simpa [Addr.add] using h0
  refine ⟨(List.range len).map fun i => (f i).2, by simp, fun i hi => ?_, hs⟩
  have hi' : i < len := by simpa using hi
  obtain ⟨h1, h2, h3⟩ := hf i hi'
  have hp : ((List.range len).map fun i => (f i).2).getD i stp0 = (f i).2 := by simp [List.getD, hi']
  rw [hp]
  obtain ⟨b, off, spot⟩ := a
  have hs := hs (by omega)
  dsimp only at hs
  subst hs
  rw [Addr.add_lit] at h1 h2
  rw [Addr.add_lit] at h2
  exact ⟨b, off, _, rfl, h1, h3, h2⟩
theorem open_slp {fuel : Nat} {v : Value} {x : DataW H × List MemPlace} (h : DataW.trod enc Tryz.prog w base spare held fuel 69 [v] = some x) :
    ∃ (l : List Stp) (a : Option Addr) (cap : Nat), v = .slice a l.length cap ∧ CellsP w a l ∧ l.length ≤ maxLen ∧ Room a l.length cap := by
  rcases open_slice Tryz.underlying69 h with ⟨h1, _⟩ | ⟨a, len, cap, m, n, D, Pl, h1, hb, hl, hm, hmm, _, hx⟩
  · simp at h1
    exact ⟨[], none, 0, h1, fun i hi => by simp at hi, by simp, by simp, by simp, fun h0 => by simp at h0⟩
  · simp at h1
    rw [cellsOfStp] at hx
    have hlm : len ≤ m := by rw [hmm]; split <;> omega
    obtain ⟨l, hll, hc, hs⟩ := open_stps (enc := enc) (spare := spare) (held := held) (w := w) (base := base) (a := a) (len := len) (fun i hi => by
      obtain ⟨cs', h2, h3⟩ := hx i (by omega)
      exact ⟨cs', n, _, h2, h3⟩)
    refine ⟨l, some a, cap, by rw [h1, hll], hc, by rw [hll]; omega, by rw [hll]; exact hl, hm, fun h0 => ?_⟩
    obtain ⟨b, off, spot⟩ := a
    have := hs (by omega)
    dsimp only at this
    subst this
    exact ⟨b, off, rfl⟩
set_option maxRecDepth 100000 in
theorem open_seq {r : Reach} {b0 : Nat} {v : Value} {d : DataW H} {p : List MemPlace} (hv : Value.okWide Tryz.prog w r b0 71 v) (h : DataW.Trod enc Tryz.prog w base spare held 71 v d p) :
    ∃ (n : Int) (l : List Stp) (a : Option Addr) (cap : Nat), v = .agg #[.int .i64 n, .slice a l.length cap] ∧ CellsP w a l ∧ l.length ≤ maxLen ∧ Room a l.length cap ∧ (Lit.int .i64 n).wf = true := by
  obtain ⟨c0, c1, y0, y1, n, rfl, _, _, h0, h1⟩ := open_agg2 Tryz.underlying71 (by kernel_rfl) (by kernel_rfl) hv h
  obtain ⟨i, e0, _, w0⟩ := DataW.trod_int Tryz.underlying3 h0
  obtain ⟨l, a, cap, e1, hc, hl, hr⟩ := open_slp h1
  simp at e0
  subst e0; subst e1
  exact ⟨i, l, a, cap, rfl, hc, hl, hr, w0⟩
end
end Go.Proofs.YtlnonmmaknhppaaGreatDoor
