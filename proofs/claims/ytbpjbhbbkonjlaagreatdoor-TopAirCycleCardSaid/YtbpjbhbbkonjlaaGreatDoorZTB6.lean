/- Steps of the proof: FSumN, FNumR, FWrit, FMadR, FMakP, FLongR, FOfR, FOps, FOpT, FCptP, FMak, FCpt0, FCpt1. No conditions. -/
import Derived.Laws.EntriesVeiled
import Derived.Test.YtbpjbhbbkonjlaaGreatDoorZTB1
import Derived.Test.YtbpjbhbbkonjlaaGreatDoorZTB2
import Derived.Test.YtbpjbhbbkonjlaaGreatDoorZTB3
import Derived.Test.YtbpjbhbbkonjlaaGreatDoorZTB4
import Derived.Test.YtbpjbhbbkonjlaaGreatDoorZTB5
namespace Go.Proofs.YtbpjbhbbkonjlaaGreatDoor
open Go.RowKit
set_option maxHeartbeats 2000000 in
theorem opposite_any (x : Num) (v : Value) (w : World) (hv : NumV w v x) :
    Calls Tryz.prog 94 #[v] w fun e w' => ∃ u, e = .returned u ∧ NumV w' u (negN x) ∧ Ext w w' := by
  obtain ⟨ta, tc, ba, bc, rfl, h1, h2⟩ := hv
  obtain ⟨s, t, d⟩ := x
  have H1 := Lib.hid h1
  have H2 := Lib.hid h2
  dsimp only at H1 H2 ⊢
  clear h1 h2
  have HN : Hid (∀ W, Ext w W → NumV W (.agg #[.bool (!s), .slice ta (toB 1000000000 t).length tc, .slice ba (toB 1000000000 d).length bc]) (negN (s, t, d))) := fun W hW => ⟨ta, tc, ba, bc, rfl, H1.out.ext hW, H2.out.ext hW⟩
  generalize toB 1000000000 t = lt at *
  generalize toB 1000000000 d = ld at *
  go_enter Tryz.func94, Tryz.ntmps94
  go_wp2
  refine bodyPost_ret (v := .agg #[.bool (!s), .slice ta lt.length tc, .slice ba ld.length bc]) (by rw [results_cell1 rfl]; go_simp) rfl ?_
  have key : ∀ W, Ext w W → ∃ u, Ending.returned (.agg #[.bool (!s), .slice ta lt.length tc, .slice ba ld.length bc]) = .returned u ∧ NumV W u (negN (s, t, d)) ∧ Ext w W := fun W E => ⟨_, rfl, HN.out W E, E⟩
  exact key _ extA
def signN (x : Num) : Int := if x.2.1 = 0 then 0 else if x.1 then -1 else 1
set_option maxHeartbeats 2000000 in
theorem sign_any (x : Num) (v : Value) (w : World) (hv : NumV w v x) :
    Calls Tryz.prog 92 #[v] w fun e w' => e = .returned (.int .i64 (signN x)) ∧ Ext w w' := by
  obtain ⟨ta, tc, ba, bc, rfl, h1, h2⟩ := hv
  obtain ⟨s, t, d⟩ := x
  clear h1 h2
  dsimp only
  by_cases h0 : t = 0
  · have hl := len_zero h0
    have HS : Hid (signN (s, t, d) = 0) := by show _ = _; unfold signN; rw [if_pos h0]
    generalize (toB 1000000000 t).length = lt at *
    subst hl
    clear h0
    go_enter Tryz.func92, Tryz.ntmps92
    go_wp2
    go_ret
    exact ⟨ret_int HS.out.symm, extA⟩
  · have hl := len_pos h0
    have hl0 : (((toB 1000000000 t).length : Int) == 0) = false := by rw [beq_eq_false_iff_ne]; omega
    generalize (toB 1000000000 t).length = lt at *
    cases s
    · have HS : Hid (signN (false, t, d) = 1) := by show _ = _; unfold signN; rw [if_neg h0]; rfl
      clear h0
      go_enter Tryz.func92, Tryz.ntmps92
      go_wp2
      go_ret
      exact ⟨ret_int HS.out.symm, extA⟩
    · have HS : Hid (signN (true, t, d) = -1) := by show _ = _; unfold signN; rw [if_neg h0]; rfl
      clear h0
      go_enter Tryz.func92, Tryz.ntmps92
      go_wp2
      go_ret
      exact ⟨ret_int HS.out.symm, extA⟩
theorem CellsN.set2 {k : IntKind} {A : World} {a : Option Addr} {l : List Nat} (h : CellsN k A a l) {c o : Nat} {v : Value} (hn : 0 < l.length → ∀ p, a = some p → p.block ≠ c) : CellsN k (A.setCell ⟨c, o, none⟩ v) a l := fun i hi => by
  obtain ⟨b, off, h1, h2⟩ := h i hi
  refine ⟨b, off, h1, ?_⟩
  have := hn (by omega) _ h1
  rw [World.cell?_setCell_other _ _ _ _ (fun h => by simp only [Addr.mk.injEq] at h; exact this h.1.symm)]
  exact h2
theorem CellsN.lt {k : IntKind} {A : World} {a : Option Addr} {l : List Nat} (h : CellsN k A a l) (hl : 0 < l.length) : ∀ p, a = some p → p.block < A.heap.size := fun p hp => by
  obtain ⟨b, off, h1, h2⟩ := h 0 hl
  rw [hp] at h1
  cases h1
  exact cell_lt h2
theorem mul_len {x y m n : Nat} (hx : (toB 1000000000 x).length ≤ m) (hy : (toB 1000000000 y).length ≤ n) : (toB 1000000000 (x * y)).length ≤ m + n := by
  have lt : ∀ {z k : Nat}, (toB 1000000000 z).length ≤ k → z < 1000000000 ^ k := fun {z k} h => by
    have h1 := valB_lt (okB_toB (B := 1000000000) (by omega) z)
    rw [valB_toB (by omega)] at h1
    exact Nat.lt_of_lt_of_le h1 (Nat.pow_le_pow_right (by omega) h)
  refine toB_len (by omega) _ ?_
  rw [Nat.pow_add]
  exact Nat.mul_lt_mul'' (lt hx) (lt hy)
def NewN (n : Nat) (v : Value) : Prop := ∀ (s : Bool) ta (tn tc : Nat) ba (bn bc : Nat), v = .agg #[.bool s, .slice ta tn tc, .slice ba bn bc] → (0 < tn → ∀ p, ta = some p → n ≤ p.block) ∧ (0 < bn → ∀ p, ba = some p → n ≤ p.block)
theorem newN_mk {n : Nat} {s : Bool} {ta : Option Addr} {tn tc : Nat} {ba : Option Addr} {bn bc : Nat} (h1 : 0 < tn → ∀ p, ta = some p → n ≤ p.block) (h2 : 0 < bn → ∀ p, ba = some p → n ≤ p.block) : NewN n (.agg #[.bool s, .slice ta tn tc, .slice ba bn bc]) := by
  intro s' ta' tn' tc' ba' bn' bc' e
  cases e
  exact ⟨h1, h2⟩
theorem NumV.set {w : World} {v : Value} {x : Num} (h : NumV w v x) {n c o : Nat} {u : Value} (hn : NewN n v) (hc : c < n) : NumV (w.setCell ⟨c, o, none⟩ u) v x := by
  obtain ⟨ta, tc, ba, bc, rfl, h1, h2⟩ := h
  obtain ⟨k1, k2⟩ := hn _ _ _ _ _ _ _ rfl
  exact ⟨ta, tc, ba, bc, rfl, h1.set2 (fun hl p hp => by have := k1 hl p hp; omega), h2.set2 (fun hl p hp => by have := k2 hl p hp; omega)⟩
def LenN (k : Nat) (x : Num) : Prop := (toB 1000000000 x.2.1).length ≤ k ∧ (toB 1000000000 x.2.2).length ≤ k
set_option maxHeartbeats 8000000 in
set_option maxRecDepth 100000 in
theorem sum_any (x y : Num) (v u : Value) (w : World) (hv : NumV w v x) (hu : NumV w u y) (hx : LenN 40 x) (hy : LenN 40 y) :
    Calls Tryz.prog 93 #[v, u] w fun e w' => ∃ z, e = .returned z ∧ NumV w' z (sumN x y) ∧ NewN w.heap.size z ∧ Ext w w' := by
  obtain ⟨ta, tc, ba, bc, rfl, h1, h2⟩ := hv
  obtain ⟨ua, uc, va, vc, rfl, h3, h4⟩ := hu
  obtain ⟨s, t, d⟩ := x
  obtain ⟨r, p, q⟩ := y
  obtain ⟨l1, l2⟩ := hx
  obtain ⟨l3, l4⟩ := hy
  dsimp only at h1 h2 h3 h4 l1 l2 l3 l4 ⊢
  have m1 := mul_len l1 l4
  have m2 := mul_len l3 l2
  have m3 := mul_len l2 l4
  have HT1 := Lib.hid (fun W (hW : Ext w W) => (times_any t q _ _ ta va tc vc W rfl rfl (by omega) (by omega) (h1.ext hW) (h4.ext hW)).mono fun _ _ h => h.newB)
  have HT2 := Lib.hid (fun W (hW : Ext w W) => (times_any p d _ _ ua ba uc bc W rfl rfl (by omega) (by omega) (h3.ext hW) (h2.ext hW)).mono fun _ _ h => h.newB)
  have HT3 := Lib.hid (fun W (hW : Ext w W) => (times_any d q _ _ ba va bc vc W rfl rfl (by omega) (by omega) (h2.ext hW) (h4.ext hW)).mono fun _ _ h => h.newB)
  have HSN := Lib.hid (show sumN (s, t, d) (r, p, q) = if s = r then (s, t * q + p * d, d * q) else if p * d ≤ t * q then (s, t * q - p * d, d * q) else (r, p * d - t * q, d * q) from rfl)
  generalize sumN (s, t, d) (r, p, q) = SN at *
  generalize t * q = X1 at *
  generalize p * d = X2 at *
  generalize d * q = X3 at *
  clear h1 h2 h3 h4
  have E : Ext w (((w.alloc (.cells #[.bool s, (.slice ta (toB 1000000000 t).length tc), (.slice ba (toB 1000000000 d).length bc)] 143)).alloc (.cells #[.bool r, (.slice ua (toB 1000000000 p).length uc), (.slice va (toB 1000000000 q).length vc)] 143)).alloc (.cells #[.bool false, .slice none 0 0, .slice none 0 0] 143)) := extA
  have A : Num3 w.heap.size (((w.alloc (.cells #[.bool s, (.slice ta (toB 1000000000 t).length tc), (.slice ba (toB 1000000000 d).length bc)] 143)).alloc (.cells #[.bool r, (.slice ua (toB 1000000000 p).length uc), (.slice va (toB 1000000000 q).length vc)] 143)).alloc (.cells #[.bool false, .slice none 0 0, .slice none 0 0] 143)) (.bool s) (.slice ta (toB 1000000000 t).length tc) (.slice ba (toB 1000000000 d).length bc) := ⟨by go_simp, by go_simp, by go_simp, by go_simp, by go_simp, by go_simp⟩
  have B : Num3 (w.heap.size + 1) (((w.alloc (.cells #[.bool s, (.slice ta (toB 1000000000 t).length tc), (.slice ba (toB 1000000000 d).length bc)] 143)).alloc (.cells #[.bool r, (.slice ua (toB 1000000000 p).length uc), (.slice va (toB 1000000000 q).length vc)] 143)).alloc (.cells #[.bool false, .slice none 0 0, .slice none 0 0] 143)) (.bool r) (.slice ua (toB 1000000000 p).length uc) (.slice va (toB 1000000000 q).length vc) := ⟨by go_simp, by go_simp, by go_simp, by go_simp, by go_simp, by go_simp⟩
  have R : Num3 (w.heap.size + 1 + 1) (((w.alloc (.cells #[.bool s, (.slice ta (toB 1000000000 t).length tc), (.slice ba (toB 1000000000 d).length bc)] 143)).alloc (.cells #[.bool r, (.slice ua (toB 1000000000 p).length uc), (.slice va (toB 1000000000 q).length vc)] 143)).alloc (.cells #[.bool false, .slice none 0 0, .slice none 0 0] 143)) (.bool false) (.slice none 0 0) (.slice none 0 0) := ⟨by go_simp, by go_simp, by go_simp, by go_simp, by go_simp, by go_simp⟩
  go_enter Tryz.func93, Tryz.ntmps93
  go_wp2_with fail
  generalize (((w.alloc (.cells #[.bool s, (.slice ta (toB 1000000000 t).length tc), (.slice ba (toB 1000000000 d).length bc)] 143)).alloc (.cells #[.bool r, (.slice ua (toB 1000000000 p).length uc), (.slice va (toB 1000000000 q).length vc)] 143)).alloc (.cells #[.bool false, .slice none 0 0, .slice none 0 0] 143)) = W at E A B R ⊢
  have hdr : Ext W W.drew := extA
  replace A := A.ext hdr
  replace B := B.ext hdr
  replace R := R.ext hdr
  replace E := E.trans hdr
  have hS : W.drew.cell? ⟨w.heap.size, 1, none⟩ = some (.slice ta (toB 1000000000 t).length tc) ∧ W.drew.cell? ⟨w.heap.size + 1, 2, none⟩ = some (.slice va (toB 1000000000 q).length vc) ∧ W.drew.cell? ⟨w.heap.size + 1, 1, none⟩ = some (.slice ua (toB 1000000000 p).length uc) ∧ W.drew.cell? ⟨w.heap.size, 2, none⟩ = some (.slice ba (toB 1000000000 d).length bc) := ⟨A.c1, B.c2, B.c1, A.c2⟩
  refine wp_region_heldE 99 (fun w' => w'.cell? ⟨w.heap.size, 1, none⟩ = some (.slice ta (toB 1000000000 t).length tc) ∧ w'.cell? ⟨w.heap.size + 1, 2, none⟩ = some (.slice va (toB 1000000000 q).length vc) ∧ w'.cell? ⟨w.heap.size + 1, 1, none⟩ = some (.slice ua (toB 1000000000 p).length uc) ∧ w'.cell? ⟨w.heap.size, 2, none⟩ = some (.slice ba (toB 1000000000 d).length bc)) (by kernel_rfl) ?_
  clear hdr
  generalize W.drew = W at E A B R hS ⊢
  ((refine eTk 0 ?_); (refine eTk 1 ?_); (refine eTk 2 ?_); (refine eTk 3 ?_); (refine eTk 5 ?_); (refine eTk 6 ?_); (refine eTk 7 ?_); (refine eTk 8 ?_))
  (refine wpAnyE_one (i := 4) (o := ?_) ?_ (by kernel_rfl) (fun K hK => ?_); rotate_left; (focus ((simp only [List.getElem?_toArray, List.getElem?_cons_succ, List.getElem?_cons_zero]; exact rfl))); go_simp; go_at_call 105; refine (HT1.out _ E).mono ?_; rintro e w1 ⟨xa, xc, rfl, hx, hxn, hE⟩; go_wp2_with fail; refine hK.out _ _ ?_ (fun hHeld => ?_); rotate_left; clear hK K; (try simp only [Act.put, List.setIfInBounds_toArray, List.set_cons_zero, List.set_cons_succ]))
  rotate_left
  · exact ⟨hE.cell hS.1, hE.cell hS.2.1, hE.cell hS.2.2.1, hE.cell hS.2.2.2⟩
  have hS1 := And.intro (hE.cell hS.1) (And.intro (hE.cell hS.2.1) (And.intro (hE.cell hS.2.2.1) (hE.cell hS.2.2.2)))
  replace A := A.ext hE
  replace B := B.ext hE
  replace R := R.ext hE
  replace E := E.trans hE
  have HX := Lib.hid hx
  clear hS hE hx hxn hHeld
  (refine wpAnyE_one (i := 9) (o := ?_) ?_ (by kernel_rfl) (fun K hK => ?_); rotate_left; (focus ((simp only [List.getElem?_toArray, List.getElem?_cons_succ, List.getElem?_cons_zero]; exact rfl))); go_simp; go_at_call 105; refine (HT2.out _ E).mono ?_; rintro e w2 ⟨ya, yc, rfl, hy, hyn, hE⟩; go_wp2_with fail; refine hK.out _ _ ?_ (fun hHeld => ?_); rotate_left; clear hK K; (try simp only [Act.put, List.setIfInBounds_toArray, List.set_cons_zero, List.set_cons_succ]))
  rotate_left
  · exact ⟨hE.cell hS1.1, hE.cell hS1.2.1, hE.cell hS1.2.2.1, hE.cell hS1.2.2.2⟩
  replace A := A.ext hE
  replace B := B.ext hE
  replace R := R.ext hE
  replace E := E.trans hE
  replace HX := Lib.hid (HX.out.ext hE)
  have HY := Lib.hid hy
  clear hS1 hE hy hyn
  ((refine eTk 10 ?_); (refine eTk 11 ?_))
  refine wpAnyE_done (by kernel_rfl) ?_ _
  clear hHeld
  go_wp2_with fail
  go_cut [7] (fun n wx => ∃ nb ma mc, n = .pointer (some ⟨nb, 0, none⟩) ∧ w.heap.size + 1 + 1 < nb ∧ Hid (Num3 nb wx (.bool s) (.slice none 0 0) (.slice ma (toB 1000000000 X3).length mc)) ∧ Hid (CellsN .u64 wx ma (toB 1000000000 X3)) ∧ Hid (0 < (toB 1000000000 X3).length → ∀ z, ma = some z → z.block ≠ nb ∧ w.heap.size + 1 + 1 < z.block) ∧ Ext w2 wx)
  case first =>
    have hdr : Ext w2 w2.drew := extA
    have hA := A.ext hdr
    have hB := B.ext hdr
    have hzw : w.heap.size + 1 + 1 < w2.heap.size := cell_lt R.c0
    have hS : w2.drew.cell? ⟨w.heap.size, 0, none⟩ = some (.bool s) ∧ w2.drew.cell? ⟨w.heap.size, 2, none⟩ = some (.slice ba (toB 1000000000 d).length bc) ∧ w2.drew.cell? ⟨w.heap.size + 1, 2, none⟩ = some (.slice va (toB 1000000000 q).length vc) := ⟨hA.c0, hA.c2, hB.c2⟩
    clear A B R hA hB HX HY
    refine wp_region_heldE 9 (fun w' => w'.cell? ⟨w.heap.size, 0, none⟩ = some (.bool s) ∧ w'.cell? ⟨w.heap.size, 2, none⟩ = some (.slice ba (toB 1000000000 d).length bc) ∧ w'.cell? ⟨w.heap.size + 1, 2, none⟩ = some (.slice va (toB 1000000000 q).length vc)) (by kernel_rfl) ?_
    have HE0 := Lib.hid (E.trans hdr)
    have HDR := Lib.hid hdr
    have hzd : w2.drew.heap.size = w2.heap.size := rfl
    clear hdr E
    generalize w2.drew = W3 at HE0 HDR hS hzd ⊢
    ((refine eTk 0 ?_); (refine eTk 1 ?_); (refine eTk 2 ?_); (refine eTk 3 ?_); (refine eTk 4 ?_); (refine eTk 5 ?_))
    refine wpAnyE_two (i := 6) (j := 8) (o := ?_) (p := ?_) ?_ ?_ (by kernel_rfl) (fun K hK => ?_) (fun K hK => ?_)
    rotate_left 2
    · simp only [List.getElem?_toArray, List.getElem?_cons_succ, List.getElem?_cons_zero]; exact rfl
    · simp only [List.getElem?_toArray, List.getElem?_cons_succ, List.getElem?_cons_zero]; exact rfl
    · go_simp
      go_at_call 105
      refine (HT3.out _ HE0.out).mono ?_
      rintro e w5 ⟨ma, mc, rfl, hm, hmn, hE⟩
      go_wp2_with fail
      have hS5 := And.intro (hE.cell hS.1) (And.intro (hE.cell hS.2.1) (hE.cell hS.2.2))
      refine hK.out _ _ hS5 (fun hHeld => ?_)
      clear hK K
      (try simp only [Act.put, List.setIfInBounds_toArray, List.set_cons_zero, List.set_cons_succ])
      (refine eTk 7 ?_)
      have EA : Ext w5 (w5.alloc (.cells #[.bool false, .slice none 0 0, .slice none 0 0] 143)) := extA
      have N : Num3 w5.heap.size (w5.alloc (.cells #[.bool false, .slice none 0 0, .slice none 0 0] 143)) (.bool false) (.slice none 0 0) (.slice none 0 0) := ⟨by go_simp, by go_simp, by go_simp, by go_simp, by go_simp, by go_simp⟩
      (refine wpAnyE_one (i := 8) (o := ?_) ?_ (by kernel_rfl) (fun K hK => ?_); rotate_left; (focus ((simp only [List.getElem?_toArray, List.getElem?_cons_succ, List.getElem?_cons_zero]; exact rfl))); go_simp; refine hK.out _ _ ?_ (fun hHeld => ?_); rotate_left; clear hK K; (try simp only [Act.put, List.setIfInBounds_toArray, List.set_cons_zero, List.set_cons_succ]))
      rotate_left
      · exact ⟨EA.cell hS5.1, EA.cell hS5.2.1, EA.cell hS5.2.2⟩
      obtain ⟨nb, hnb⟩ : ∃ nb, nb = w5.heap.size := ⟨_, rfl⟩
      have hz5 := hE.size
      have HMN : Hid (0 < (toB 1000000000 X3).length → ∀ z, ma = some z → z.block ≠ nb ∧ w.heap.size + 1 + 1 < z.block) := fun hl z hz => by
        have h1 := hmn z hz
        have h2 := hm.lt hl z hz
        omega
      have HMX := Lib.hid hm
      have HEA := Lib.hid EA
      have hnz : w.heap.size + 1 + 1 < nb := by omega
      have hnw : w5.heap.size ≤ nb := by omega
      have HHE := Lib.hid hE
      rw [← hnb] at N ⊢
      clear hE EA hm hmn hHeld hS5 hS hz5 hnb
      generalize (w5.alloc (.cells #[.bool false, .slice none 0 0, .slice none 0 0] 143)) = W6 at N HEA ⊢
      have HN := Lib.hid N
      obtain ⟨x0, x1, x2, g0, g1, g2⟩ := N
      (refine wpAnyE_free (i := 9) (o := ?_) ?_ (by kernel_rfl) (by kernel_rfl) (fun K hK => ?_); rotate_left; (focus ((simp only [List.getElem?_toArray, List.getElem?_cons_succ, List.getElem?_cons_zero]; exact rfl))); go_simp; refine hK.out _ _ ?_; clear hK K; (try simp only [Act.put, List.setIfInBounds_toArray, List.set_cons_zero, List.set_cons_succ]))
      refine wpAnyE_done (by kernel_rfl) ?_ _
      go_wp2_with fail
      go_meet
      refine ⟨nb, ma, mc, rfl, hnz, ((HN.out.set0 _).set1 _).set2 _, HMX.out.ext (((HEA.out.set hnw _).set hnw _).set hnw _), HMN, ?_⟩
      have hw5 := HHE.out.size
      exact HDR.out.trans ((((HHE.out.trans HEA.out).set (by omega) _).set (by omega) _).set (by omega) _)
    · go_simp
      have EA : Ext W3 (W3.alloc (.cells #[.bool false, .slice none 0 0, .slice none 0 0] 143)) := extA
      have N : Num3 W3.heap.size (W3.alloc (.cells #[.bool false, .slice none 0 0, .slice none 0 0] 143)) (.bool false) (.slice none 0 0) (.slice none 0 0) := ⟨by go_simp, by go_simp, by go_simp, by go_simp, by go_simp, by go_simp⟩
      have hSA := And.intro (EA.cell hS.1) (And.intro (EA.cell hS.2.1) (EA.cell hS.2.2))
      refine hK.out _ _ hSA (fun hHeld => ?_)
      clear hK K hHeld
      (try simp only [Act.put, List.setIfInBounds_toArray, List.set_cons_zero, List.set_cons_succ])
      rw [hzd] at N
      obtain ⟨nb, hnb⟩ : ∃ nb, nb = w2.heap.size := ⟨_, rfl⟩
      have hnl := cell_lt N.c0
      dsimp only at hnl
      rw [← hnb] at N hnl ⊢
      have hnz : w.heap.size + 1 + 1 < nb := by omega
      have hnw : W3.heap.size ≤ nb := by omega
      have HEA := Lib.hid EA
      clear EA hnb
      generalize (W3.alloc (.cells #[.bool false, .slice none 0 0, .slice none 0 0] 143)) = W4 at N HEA hSA hnl ⊢
      (refine wpAnyE_one (i := 6) (o := ?_) ?_ (by kernel_rfl) (fun K hK => ?_); rotate_left; (focus ((simp only [List.getElem?_toArray, List.getElem?_cons_succ, List.getElem?_cons_zero]; exact rfl))); go_simp; go_at_call 105; refine (HT3.out _ (HE0.out.trans HEA.out)).mono ?_; rintro e w5 ⟨ma, mc, rfl, hm, hmn, hE⟩; go_wp2_with fail; refine hK.out _ _ ?_ (fun hHeld => ?_); rotate_left; clear hK K; (try simp only [Act.put, List.setIfInBounds_toArray, List.set_cons_zero, List.set_cons_succ]))
      rotate_left
      · exact ⟨hE.cell hSA.1, hE.cell hSA.2.1, hE.cell hSA.2.2⟩
      (refine eTk 7 ?_)
      have N5 := N.ext hE
      have HMN : Hid (0 < (toB 1000000000 X3).length → ∀ z, ma = some z → z.block ≠ nb ∧ w.heap.size + 1 + 1 < z.block) := fun hl z hz => by
        have h1 := hmn z hz
        omega
      have HMX := Lib.hid hm
      have HHE := Lib.hid (HEA.out.trans hE)
      clear hE hm hmn hHeld hSA hS N
      have HN := Lib.hid N5
      obtain ⟨x0, x1, x2, g0, g1, g2⟩ := N5
      (refine wpAnyE_free (i := 9) (o := ?_) ?_ (by kernel_rfl) (by kernel_rfl) (fun K hK => ?_); rotate_left; (focus ((simp only [List.getElem?_toArray, List.getElem?_cons_succ, List.getElem?_cons_zero]; exact rfl))); go_simp; refine hK.out _ _ ?_; clear hK K; (try simp only [Act.put, List.setIfInBounds_toArray, List.set_cons_zero, List.set_cons_succ]))
      refine wpAnyE_done (by kernel_rfl) ?_ _
      go_wp2_with fail
      go_meet
      refine ⟨nb, ma, mc, rfl, hnz, ((HN.out.set0 _).set1 _).set2 _, ((HMX.out.set2 (fun hl z hz => (HMN.out hl z hz).1)).set2 (fun hl z hz => (HMN.out hl z hz).1)).set2 (fun hl z hz => (HMN.out hl z hz).1), HMN, ?_⟩
      exact HDR.out.trans (((HHE.out.set hnw _).set hnw _).set hnw _)
  case rest =>
    obtain ⟨nb, ma, mc, rfl, hnb, N, HM, hmn, hE⟩ := hcut
    replace A := A.ext hE
    replace B := B.ext hE
    replace R := R.ext hE
    replace E := E.trans hE
    replace HX := Lib.hid (HX.out.ext hE)
    replace HY := Lib.hid (HY.out.ext hE)
    clear hE HT1 HT2 HT3
    obtain ⟨a0, a1, a2, _, _, _⟩ := A
    obtain ⟨b0, b1, b2, _, _, _⟩ := B
    have A := True.intro
    have B := True.intro
    by_cases hsr : s = r
    · have HE : Hid (SN = (s, X1 + X2, X3)) := HSN.out.trans (by rw [if_pos hsr])
      have hsb : (s == r) = true := by rw [hsr]; exact beq_self_eq_true r
      clear HSN hsr
      go_wp2_with fail
      refine ((plus_any X1 X2 _ _ xa ya xc yc wc rfl rfl (by omega) (by omega) HX.out HY.out).mono fun _ _ h => h.newB).mono ?_
      rintro e w4 ⟨pa, pc, rfl, hp, hpn, hE4⟩
      have hzn : nb < wc.heap.size := cell_lt N.out.c0
      have HPN : Hid (∀ z, pa = some z → z.block ≠ nb ∧ w.heap.size + 1 + 1 < z.block) := fun z hz => by have := hpn z hz; omega
      have HP := Lib.hid hp
      have N4 := N.out.ext hE4
      have R4 := R.ext hE4
      have E4 := E.trans hE4
      have HM4 := Lib.hid (HM.out.ext hE4)
      obtain ⟨x0, x1, x2, g0, g1, g2⟩ := N4
      obtain ⟨c0, c1, c2, f0, f1, f2⟩ := R4
      have hne : nb ≠ w.heap.size + 1 + 1 := by omega
      clear hE4 hp hpn A B R E N HX HY HM
      go_wp2_with fail
      refine bodyPost_ret (v := .agg #[.bool s, .slice pa (toB 1000000000 (X1 + X2)).length pc, .slice ma (toB 1000000000 X3).length mc]) (by rw [results_cell1 rfl]; go_simp) rfl ?_
      refine ⟨_, rfl, ?_, newN_mk (fun hl z hz => by have := (HPN.out z hz).2; omega) (fun hl z hz => by have := (hmn.out hl z hz).2; omega), extA⟩
      rw [HE.out]
      refine ⟨pa, pc, ma, mc, rfl, ?_, ?_⟩
      · exact (CellsN.set2 (CellsN.set2 (CellsN.set2 (CellsN.set2 HP.out (fun hl z hz => (HPN.out z hz).1)) (fun hl z hz => Nat.ne_of_gt (HPN.out z hz).2)) (fun hl z hz => Nat.ne_of_gt (HPN.out z hz).2)) (fun hl z hz => Nat.ne_of_gt (HPN.out z hz).2))
      · exact (CellsN.set2 (CellsN.set2 (CellsN.set2 (CellsN.set2 HM4.out (fun hl z hz => (hmn.out hl z hz).1)) (fun hl z hz => Nat.ne_of_gt (hmn.out hl z hz).2)) (fun hl z hz => Nat.ne_of_gt (hmn.out hl z hz).2)) (fun hl z hz => Nat.ne_of_gt (hmn.out hl z hz).2))
    · have hsb : (s == r) = false := by rw [beq_eq_false_iff_ne]; exact hsr
      by_cases hle : X2 ≤ X1
      · have HE : Hid (SN = (s, X1 - X2, X3)) := HSN.out.trans (by rw [if_neg hsr, if_pos hle])
        obtain ⟨z, hz, hz0⟩ : ∃ z, ordN X1 X2 = z ∧ 0 ≤ z := ⟨_, rfl, ordN_ge.2 hle⟩
        have HLE := Lib.hid hle
        clear HSN hsr hle
        go_wp2_with fail
        refine (compare_any X1 X2 _ _ xa ya xc yc wc rfl rfl (by omega) (by omega) HX.out HY.out).mono ?_
        rintro e wd ⟨rfl, hE⟩
        rw [hz]
        replace R := R.ext hE
        replace E := E.trans hE
        replace HX := Lib.hid (HX.out.ext hE)
        replace HY := Lib.hid (HY.out.ext hE)
        replace N := Lib.hid (N.out.ext hE)
        replace HM := Lib.hid (HM.out.ext hE)
        clear hE hz a0 a1 a2 b0 b1 b2
        go_wp2_with fail
        refine ((minus_any X1 X2 _ _ xa ya xc yc wd rfl rfl HLE.out (by omega) HX.out HY.out).mono fun _ _ h => h.newB).mono ?_
        rintro e w4 ⟨pa, pc, rfl, hp, hpn, hE4⟩
        have hzn : nb < wd.heap.size := cell_lt N.out.c0
        have HPN : Hid (∀ z, pa = some z → z.block ≠ nb ∧ w.heap.size + 1 + 1 < z.block) := fun z hz => by have := hpn z hz; omega
        have HP := Lib.hid hp
        have N4 := N.out.ext hE4
        have R4 := R.ext hE4
        have E4 := E.trans hE4
        have HM4 := Lib.hid (HM.out.ext hE4)
        obtain ⟨x0, x1, x2, g0, g1, g2⟩ := N4
        obtain ⟨c0, c1, c2, f0, f1, f2⟩ := R4
        have hne : nb ≠ w.heap.size + 1 + 1 := by omega
        clear hE4 hp hpn A B R E N HX HY HM
        go_wp2_with fail
        refine bodyPost_ret (v := .agg #[.bool s, .slice pa (toB 1000000000 (X1 - X2)).length pc, .slice ma (toB 1000000000 X3).length mc]) (by rw [results_cell1 rfl]; go_simp) rfl ?_
        refine ⟨_, rfl, ?_, newN_mk (fun hl z hz => by have := (HPN.out z hz).2; omega) (fun hl z hz => by have := (hmn.out hl z hz).2; omega), extA⟩
        rw [HE.out]
        refine ⟨pa, pc, ma, mc, rfl, ?_, ?_⟩
        · exact (CellsN.set2 (CellsN.set2 (CellsN.set2 (CellsN.set2 HP.out (fun hl z hz => (HPN.out z hz).1)) (fun hl z hz => Nat.ne_of_gt (HPN.out z hz).2)) (fun hl z hz => Nat.ne_of_gt (HPN.out z hz).2)) (fun hl z hz => Nat.ne_of_gt (HPN.out z hz).2))
        · exact (CellsN.set2 (CellsN.set2 (CellsN.set2 (CellsN.set2 HM4.out (fun hl z hz => (hmn.out hl z hz).1)) (fun hl z hz => Nat.ne_of_gt (hmn.out hl z hz).2)) (fun hl z hz => Nat.ne_of_gt (hmn.out hl z hz).2)) (fun hl z hz => Nat.ne_of_gt (hmn.out hl z hz).2))
      · have HE : Hid (SN = (r, X2 - X1, X3)) := HSN.out.trans (by rw [if_neg hsr, if_neg hle])
        obtain ⟨z, hz, hz0⟩ : ∃ z, ordN X1 X2 = z ∧ ¬ 0 ≤ z := ⟨_, rfl, fun h => hle (ordN_ge.1 h)⟩
        have HLE : Hid (X1 ≤ X2) := by show _ ≤ _; omega
        clear HSN hsr hle
        go_wp2_with fail
        refine (compare_any X1 X2 _ _ xa ya xc yc wc rfl rfl (by omega) (by omega) HX.out HY.out).mono ?_
        rintro e wd ⟨rfl, hE⟩
        rw [hz]
        replace R := R.ext hE
        replace E := E.trans hE
        replace HX := Lib.hid (HX.out.ext hE)
        replace HY := Lib.hid (HY.out.ext hE)
        replace N := Lib.hid (N.out.ext hE)
        replace HM := Lib.hid (HM.out.ext hE)
        replace b0 := hE.cell b0
        clear hE hz a0 a1 a2 b1 b2
        go_wp2_with fail
        have hdr : Ext wd wd.drew := extA
        have hS : wd.drew.cell? ⟨w.heap.size + 1, 0, none⟩ = some (.bool r) := hdr.cell b0
        replace R := R.ext hdr
        replace E := E.trans hdr
        replace HX := Lib.hid (HX.out.ext hdr)
        replace HY := Lib.hid (HY.out.ext hdr)
        replace N := Lib.hid (N.out.ext hdr)
        replace HM := Lib.hid (HM.out.ext hdr)
        refine wp_region_heldE 6 (fun w' => w'.cell? ⟨w.heap.size + 1, 0, none⟩ = some (.bool r)) (by kernel_rfl) ?_
        clear b0 hdr
        generalize wd.drew = wd at R E HX HY N HM hS ⊢
        ((refine eTk 0 ?_); (refine eTk 1 ?_))
        ((refine ePu 2 ?_); (refine ePu 3 ?_); (refine ePu 5 ?_))
        (refine wpAnyE_one (i := 4) (o := ?_) ?_ (by kernel_rfl) (fun K hK => ?_); rotate_left; (focus ((simp only [List.getElem?_toArray, List.getElem?_cons_succ, List.getElem?_cons_zero]; exact rfl))); go_simp; go_at_call 116; refine ((minus_any X2 X1 _ _ ya xa yc xc wd rfl rfl HLE.out (by omega) HY.out HX.out).mono fun _ _ h => h.newB).mono ?_; rintro e w4 ⟨pa, pc, rfl, hp, hpn, hE4⟩; go_wp2_with fail; refine hK.out _ _ ?_ (fun hHeld => ?_); rotate_left; clear hK K; (try simp only [Act.put, List.setIfInBounds_toArray, List.set_cons_zero, List.set_cons_succ]))
        rotate_left
        · exact hE4.cell hS
        have hzn : nb < wd.heap.size := cell_lt N.out.c0
        have HPN : Hid (∀ z, pa = some z → z.block ≠ nb ∧ w.heap.size + 1 + 1 < z.block) := fun z hz => by have := hpn z hz; omega
        have HP := Lib.hid hp
        have N4 := N.out.ext hE4
        have R4 := R.ext hE4
        have E4 := E.trans hE4
        have HM4 := Lib.hid (HM.out.ext hE4)
        obtain ⟨x0, x1, x2, g0, g1, g2⟩ := N4
        obtain ⟨c0, c1, c2, f0, f1, f2⟩ := R4
        have hne : nb ≠ w.heap.size + 1 + 1 := by omega
        have hSf := hE4.cell hS
        clear hE4 hp hpn R E N HX HY HM hS hHeld
        (refine wpAnyE_free (i := 6) (o := ?_) ?_ (by kernel_rfl) (by kernel_rfl) (fun K hK => ?_); rotate_left; (focus ((simp only [List.getElem?_toArray, List.getElem?_cons_succ, List.getElem?_cons_zero]; exact rfl))); go_simp; refine hK.out _ _ ?_; clear hK K; (try simp only [Act.put, List.setIfInBounds_toArray, List.set_cons_zero, List.set_cons_succ]))
        (refine ePu 7 ?_)
        (refine wpAnyE_free (i := 8) (o := ?_) ?_ (by kernel_rfl) (by kernel_rfl) (fun K hK => ?_); rotate_left; (focus ((simp only [List.getElem?_toArray, List.getElem?_cons_succ, List.getElem?_cons_zero]; exact rfl))); go_simp; refine hK.out _ _ ?_; clear hK K; (try simp only [Act.put, List.setIfInBounds_toArray, List.set_cons_zero, List.set_cons_succ]))
        refine wpAnyE_done (by kernel_rfl) ?_ _
        go_wp2_with fail
        refine bodyPost_ret (v := .agg #[.bool r, .slice pa (toB 1000000000 (X2 - X1)).length pc, .slice ma (toB 1000000000 X3).length mc]) (by rw [results_cell1 rfl]; go_simp) rfl ?_
        refine ⟨_, rfl, ?_, newN_mk (fun hl z hz => by have := (HPN.out z hz).2; omega) (fun hl z hz => by have := (hmn.out hl z hz).2; omega), extA⟩
        rw [HE.out]
        refine ⟨pa, pc, ma, mc, rfl, ?_, ?_⟩
        · exact (CellsN.set2 (CellsN.set2 (CellsN.set2 (CellsN.set2 (CellsN.set2 HP.out (fun hl z hz => (HPN.out z hz).1)) (fun hl z hz => (HPN.out z hz).1)) (fun hl z hz => Nat.ne_of_gt (HPN.out z hz).2)) (fun hl z hz => Nat.ne_of_gt (HPN.out z hz).2)) (fun hl z hz => Nat.ne_of_gt (HPN.out z hz).2))
        · exact (CellsN.set2 (CellsN.set2 (CellsN.set2 (CellsN.set2 (CellsN.set2 HM4.out (fun hl z hz => (hmn.out hl z hz).1)) (fun hl z hz => (hmn.out hl z hz).1)) (fun hl z hz => Nat.ne_of_gt (hmn.out hl z hz).2)) (fun hl z hz => Nat.ne_of_gt (hmn.out hl z hz).2)) (fun hl z hz => Nat.ne_of_gt (hmn.out hl z hz).2))
end Go.Proofs.YtbpjbhbbkonjlaaGreatDoor
namespace Go.Proofs.YtbpjbhbbkonjlaaGreatDoor
open Go.RowKit
open Go.Lib (decDigits)
def NumR (w : World) (v : Value) (x : Num) : Prop := ∃ ta tc ba bc, v = .agg #[.bool x.1, .slice ta (toB 1000000 x.2.1).length tc, .slice ba (toB 1000000 x.2.2).length bc] ∧
  CellsN .i64 w ta (toB 1000000 x.2.1) ∧ CellsN .i64 w ba (toB 1000000 x.2.2)
theorem NumR.ext {w w' : World} {v : Value} {x : Num} (h : NumR w v x) (e : Ext w w') : NumR w' v x := by
  obtain ⟨ta, tc, ba, bc, h1, h2, h3⟩ := h
  exact ⟨ta, tc, ba, bc, h1, h2.ext e, h3.ext e⟩
theorem CellsN.three {k : IntKind} {W : World} {a : Option Addr} {l : List Nat} {b : Nat} {x y z : Value} (h : CellsN k W a l) (hn : 0 < l.length → ∀ p, a = some p → p.block ≠ b) :
    CellsN k (((W.setCell ⟨b, 0, none⟩ x).setCell ⟨b, 1, none⟩ y).setCell ⟨b, 2, none⟩ z) a l := CellsN.set2 (CellsN.set2 (CellsN.set2 h hn) hn) hn
def NumPost (x : Num) (w : World) (e : Ending) (w' : World) : Prop := ∃ v, e = .returned v ∧ NumR w' v x ∧ Ext w w'
theorem own_ne {a : Option Addr} {n c k : Nat} (h : ∀ b, (Value.slice a n c).ownBlock = some b → k ≤ b) {l : List Nat} {w : World} {kd : IntKind} {t : TypeId} (ho : OwnsN kd t w (.slice a n c) l) : 0 < l.length → ∀ p, a = some p → k ≤ p.block := fun hl p hp => by
  subst hp
  obtain ⟨a', c', e, _, _, h3⟩ := ho.reads
  obtain ⟨e1, _, _⟩ := Value.slice.inj e
  obtain ⟨b, hb, hob, _⟩ := h3 0 hl
  rw [← e1] at hb
  cases hb
  exact h b hob
theorem head_neg {n : Txt} {c : UInt8} {m : Txt} (h : n = c :: m) : ((c.toNat : Int) == 45) = negS n := by
  rw [h]
  by_cases hc : c = 45
  · rw [hc]; rfl
  · have h1 : ((c.toNat : Int) == 45) = false := by
      rw [beq_eq_false_iff_ne]
      intro e
      exact hc (UInt8.toNat_inj.1 (by show c.toNat = 45; omega))
    rw [h1]
    unfold negS
    simp [hc]
set_option maxHeartbeats 8000000 in
set_option maxRecDepth 100000 in
theorem numR_any (a : Txt) (w : World) (hf : fracE a = 0) (hl : a.length ≤ 400) :
    Calls Tryz.prog 56 #[txt a] w (NumPost (numOf a) w) := by
  obtain ⟨h1, h2, h3, h4, h5, h6, _⟩ := frac_parts hf
  have htl : (topS a).length ≤ 400 := Nat.le_trans (List.takeWhile_prefix _).length_le hl
  have hll : (lowS a).length ≤ 400 := by
    unfold lowS
    split
    · rw [List.length_tail]
      have := (List.dropWhile_suffix (l := a) (· != 47)).length_le
      omega
    · simp
  have HS := Lib.hid (fun W => splitR_any a W hl)
  have HBT := Lib.hid (fun W => bareR_any (topS a) W htl)
  have HRT := Lib.hid (fun W => readR_any (bareS (topS a)) W h1.1.1 (Nat.le_trans (bare_le _) (by omega)))
  have HRL := Lib.hid (fun W => readR_any (lowS a) W h3.1 (by omega))
  have hnum : numOf a = (negS (topS a), decV (bareS (topS a)), decV (lowS a)) := rfl
  have hne : topS a ≠ [] := fun e => h1.1.2.1 (by rw [e]; rfl)
  rw [hnum]
  clear hnum hf hll h1 h2 h3 h4 h5 h6
  generalize topS a = n at *
  generalize lowS a = d at *
  obtain ⟨c, m, hcm⟩ := List.exists_cons_of_ne_nil hne
  have hget : ∀ h, (⟨n.toArray⟩ : ByteArray)[0]'h = c := fun _ => by subst hcm; rfl
  have hpos : (0 : Int) < (n.length : Int) := by rw [hcm, List.length_cons]; omega
  have hc := head_neg hcm
  have hposn : 0 < n.length := by omega
  have hTT : True := trivial
  clear hcm hne
  generalize negS n = s at *
  generalize bareS n = nb at *
  generalize decV nb = x at *
  generalize decV d = y at *
  have E : Ext w (w.alloc (.cells #[.bool false, .slice none 0 0, .slice none 0 0] 108)) := extA
  have R : Num3 w.heap.size (w.alloc (.cells #[.bool false, .slice none 0 0, .slice none 0 0] 108)) (.bool false) (.slice none 0 0) (.slice none 0 0) := ⟨by go_simp, by go_simp, by go_simp, by go_simp, by go_simp, by go_simp⟩
  go_enter Tryz.func56, Tryz.ntmps56
  go_wp2_with fail
  generalize (w.alloc (.cells #[.bool false, .slice none 0 0, .slice none 0 0] 108)) = W at E R ⊢
  go_wp2_with ((go_at_call 48; (with_reducible refine (HS.out _).mono ?_); rintro e w1 ⟨rfl, hE⟩))
  replace R := R.ext hE
  replace E := E.trans hE
  clear hE
  have hdr : Ext w1 w1.drew := extA
  replace R := R.ext hdr
  replace E := E.trans hdr
  refine wp_region_heldE 9 (fun _ => True) (by kernel_rfl) ?_
  clear hdr
  generalize w1.drew = W1 at E R ⊢
  have hz0 : w.heap.size < W1.heap.size := cell_lt R.c0
  ((refine eTk 0 ?_); (refine eTk 1 ?_); (refine eTk 2 ?_); (refine eTk 3 ?_); (refine eTk 6 ?_))
  (refine wpAnyE_one (i := 4) (o := ?_) ?_ (by kernel_rfl) (fun K hK => ?_); rotate_left; (focus ((simp only [List.getElem?_toArray, List.getElem?_cons_succ, List.getElem?_cons_zero]; exact rfl))); go_simp; go_at_call 54; refine (HBT.out _).mono ?_; rintro e w' ⟨rfl, rfl⟩; go_wp2_with fail; refine hK.out _ _ ?_ (fun hHeld => ?_); rotate_left; clear hK K; (try simp only [Act.put, List.setIfInBounds_toArray, List.set_cons_zero, List.set_cons_succ]))
  rotate_left
  · trivial
  clear hHeld
  (refine wpAnyE_one (i := 5) (o := ?_) ?_ (by kernel_rfl) (fun K hK => ?_); rotate_left; (focus ((simp only [List.getElem?_toArray, List.getElem?_cons_succ, List.getElem?_cons_zero]; exact rfl))); go_simp; go_at_call 53; refine (HRT.out _).mono ?_; rintro e w5 ⟨v5, rfl, o5, n5, e5⟩; obtain ⟨a5, c5, rfl, oc5, _, _⟩ := o5.reads; go_wp2_with fail; refine hK.out _ _ ?_ (fun hHeld => ?_); rotate_left; clear hK K; (try simp only [Act.put, List.setIfInBounds_toArray, List.set_cons_zero, List.set_cons_succ]))
  rotate_left
  · trivial
  clear hHeld
  have N5 := own_ne n5 o5
  replace R := R.ext e5
  replace E := E.trans e5
  have C5 := Lib.hid oc5
  have hz1 := e5.size
  clear o5 n5 e5 oc5
  (refine wpAnyE_one (i := 7) (o := ?_) ?_ (by kernel_rfl) (fun K hK => ?_); rotate_left; (focus ((simp only [List.getElem?_toArray, List.getElem?_cons_succ, List.getElem?_cons_zero]; exact rfl))); go_simp; go_at_call 53; refine (HRL.out _).mono ?_; rintro e w6 ⟨v6, rfl, o6, n6, e6⟩; obtain ⟨a6, c6, rfl, oc6, _, _⟩ := o6.reads; go_wp2_with fail; refine hK.out _ _ ?_ (fun hHeld => ?_); rotate_left; clear hK K; (try simp only [Act.put, List.setIfInBounds_toArray, List.set_cons_zero, List.set_cons_succ]))
  rotate_left
  · trivial
  have N6 := own_ne n6 o6
  replace R := R.ext e6
  replace E := E.trans e6
  have C6 := Lib.hid oc6
  have hz2 := e6.size
  replace C5 := Lib.hid (C5.out.ext e6)
  have HN5 : Hid (0 < (toB 1000000 x).length → ∀ p, a5 = some p → p.block ≠ w.heap.size) := fun hl p hp => by have := N5 hl p hp; omega
  have HN6 : Hid (0 < (toB 1000000 y).length → ∀ p, a6 = some p → p.block ≠ w.heap.size) := fun hl p hp => by have := N6 hl p hp; omega
  have HR := Lib.hid R
  obtain ⟨r0, r1, r2, f0, f1, f2⟩ := R
  clear o6 n6 e6 oc6 N5 N6 hHeld
  (refine ePu 8 ?_)
  (refine wpAnyE_free (i := 9) (o := ?_) ?_ (by kernel_rfl) (by kernel_rfl) (fun K hK => ?_); rotate_left; (focus ((simp only [List.getElem?_toArray, List.getElem?_cons_succ, List.getElem?_cons_zero]; exact rfl))); go_simp; refine hK.out _ _ ?_; clear hK K; (try simp only [Act.put, List.setIfInBounds_toArray, List.set_cons_zero, List.set_cons_succ]))
  refine wpAnyE_done (by kernel_rfl) ?_ _
  go_wp2_with fail
  refine bodyPost_ret (v := .agg #[.bool s, .slice a5 (toB 1000000 x).length c5, .slice a6 (toB 1000000 y).length c6]) (by rw [results_cell1 rfl]; go_simp) rfl ?_
  refine ⟨_, rfl, ⟨a5, c5, a6, c6, rfl, C5.out.three HN5.out, C6.out.three HN6.out⟩, extA⟩
end Go.Proofs.YtbpjbhbbkonjlaaGreatDoor
namespace Go.Proofs.YtbpjbhbbkonjlaaGreatDoor
open Go.RowKit
open Go.Lib (decDigits)
theorem dec_zero {n : Nat} : decDigits n = [48] ↔ n = 0 := by
  constructor
  · intro h
    have := (digits_ok n).2.1
    rw [h] at this
    exact this.symm
  · rintro rfl; exact digits_small (by omega)
theorem dec_one {n : Nat} : decDigits n = [49] ↔ n = 1 := by
  constructor
  · intro h
    have := (digits_ok n).2.1
    rw [h] at this
    exact this.symm
  · rintro rfl; exact digits_small (by omega)
def joinT (s : Bool) (T D : Txt) : Txt := (if s && decide (T ≠ [48]) then 45 :: T else T) ++ (if D = [49] then [] else 47 :: D)
theorem made_parts {s : Bool} {t d : Nat} (hd : d ≠ 0) {T D : Txt} (hT : T = decDigits (t / Nat.gcd t d)) (hD : D = decDigits (d / Nat.gcd t d)) :
    (¬ (60 < T.length ∨ 60 < D.length) → madeT (numQ s t d) = joinT s T D ∧ madeE (numQ s t d) = 0) ∧ ((60 < T.length ∨ 60 < D.length) → madeT (numQ s t d) = [] ∧ madeE (numQ s t d) = 11) := by
  have hf := num_fit (s := s) (t := t) hd
  rw [← hT, ← hD] at hf
  unfold madeT madeE
  constructor
  · intro h
    rw [if_pos (hf.2 (by omega)), if_pos (hf.2 (by omega)), num_text hd, ← hT, ← hD]
    refine ⟨?_, rfl⟩
    unfold joinT
    have e1 : decide (t / Nat.gcd t d ≠ 0) = decide (T ≠ [48]) := decide_eq_decide.2 (by rw [hT, Ne, Ne, dec_zero])
    rw [e1]
    congr 1
    by_cases h1 : d / Nat.gcd t d = 1
    · rw [if_pos h1, if_pos (by rw [hD]; exact dec_one.2 h1)]
    · rw [if_neg h1, if_neg (by rw [hD]; exact fun e => h1 (dec_one.1 e))]
  · intro h
    rw [if_neg (fun e => by have := hf.1 e; omega), if_neg (fun e => by have := hf.1 e; omega)]
    exact ⟨rfl, rfl⟩
def WritPost (q : Rat) (w : World) (e : Ending) (w' : World) : Prop := e = .returned (.tuple #[txt (madeT q), .int .i64 (madeE q : Nat)]) ∧ Ext w w'
theorem bare_digits (n : Nat) : bareS (decDigits n) = decDigits n := bare_pos (canon_pos (canon_digits n))
theorem OwnNPost2.newC2 {x y : Nat} {w : World} {e : Ending} {w' : World} (h : OwnNPost2 .u64 164 (toB 1000000000 x) (toB 1000000000 y) w e w') :
    ∃ a c b d, e = .returned (.tuple #[.slice a (toB 1000000000 x).length c, .slice b (toB 1000000000 y).length d]) ∧ CellsN .u64 w' a (toB 1000000000 x) ∧ CellsN .u64 w' b (toB 1000000000 y) ∧ (∀ p, a = some p → w.heap.size ≤ p.block) ∧ (∀ p, b = some p → w.heap.size ≤ p.block) ∧ Ext w w' := by
  obtain ⟨v, u, h1, h2, h3, h4, h5, h6⟩ := h
  obtain ⟨a, c, rfl, k1, _⟩ := h2.reads
  obtain ⟨b, d, rfl, k2, _⟩ := h3.reads
  exact ⟨a, c, b, d, h1, k1, k2, (fun p hp => h4 p.block (by rw [hp]; rfl)), (fun p hp => h5 p.block (by rw [hp]; rfl)), h6⟩
set_option maxHeartbeats 8000000 in
set_option maxRecDepth 100000 in
theorem written_any (s : Bool) (t d : Nat) (v : Value) (w : World) (hv : NumV w v (s, t, d)) (hd : d ≠ 0) (hG : Glob w) (h1 : (toB 1000000000 t).length ≤ 90) (h2 : (toB 1000000000 d).length ≤ 90) :
    Calls Tryz.prog 84 #[v] w (WritPost (numQ s t d) w) := by
  obtain ⟨ta, tc, ba, bc, rfl, hct, hcb⟩ := hv
  obtain ⟨T, hT⟩ : ∃ T, T = decDigits (t / Nat.gcd t d) := ⟨_, rfl⟩
  obtain ⟨D, hD⟩ : ∃ D, D = decDigits (d / Nat.gcd t d) := ⟨_, rfl⟩
  have HMP := Lib.hid (made_parts (s := s) hd hT hD)
  obtain ⟨g, hg⟩ : ∃ g, g = Nat.gcd t d := ⟨_, rfl⟩
  have hg0 : 0 < g := by rw [hg]; exact Nat.gcd_pos_of_pos_right _ (by omega)
  rw [← hg] at hT hD
  have hbT : bareS T = T := by rw [hT]; exact bare_digits _
  have hbD : bareS D = D := by rw [hD]; exact bare_digits _
  have hdl := lt_of_len (x := d) rfl (by omega)
  have hgl : (toB 1000000000 g).length ≤ 100 := by
    have hgd : g ≤ d := by rw [hg]; exact Nat.gcd_le_right _ (by omega)
    exact toB_len (by omega) 100 (by omega)
  have htl := lt_of_len (x := t) rfl (by omega)
  have hn1 : (toB 1000000000 (t / g)).length ≤ 100 := toB_len (by omega) 100 (by have := Nat.div_le_self t g; omega)
  have hn2 : (toB 1000000000 (d / g)).length ≤ 100 := toB_len (by omega) 100 (by have := Nat.div_le_self d g; omega)
  have HDV := Lib.hid (fun W (hW : Ext w W) => (divisor_any t d _ _ ta ba tc bc W rfl rfl (by omega) (by omega) (by omega) (hct.ext hW) (hcb.ext hW)).mono fun _ _ h => h.newB)
  rw [← hg] at HDV
  have HO1 := Lib.hid (fun W (hW : Ext w W) ga gc (hgc : CellsN .u64 W ga (toB 1000000000 g)) => (over_any t g _ _ ta ga tc gc W rfl rfl hg0 (by omega) (by omega) (hct.ext hW) hgc).mono fun _ _ h => h.newC2)
  have HO2 := Lib.hid (fun W (hW : Ext w W) ga gc (hgc : CellsN .u64 W ga (toB 1000000000 g)) => (over_any d g _ _ ba ga bc gc W rfl rfl hg0 (by omega) (by omega) (hcb.ext hW) hgc).mono fun _ _ h => h.newC2)
  have HTX := Lib.hid (fun W (hW : Ext w W) a c (hc : CellsN .u64 W a (toB 1000000000 (t / g))) => text_any (t / g) _ a c W rfl (by omega) (hG.ext hW) hc)
  have HDX := Lib.hid (fun W (hW : Ext w W) a c (hc : CellsN .u64 W a (toB 1000000000 (d / g))) => text_any (d / g) _ a c W rfl (by omega) (hG.ext hW) hc)
  rw [← hT] at HTX
  rw [← hD] at HDX
  have HL1 := Lib.hid (fun W => long_any T W)
  have HL2 := Lib.hid (fun W => long_any D W)
  rw [hbT] at HL1
  rw [hbD] at HL2
  have HCT := Lib.hid hct
  have HCB := Lib.hid hcb
  have HG1 : Hid (g = 1 → t / g = t ∧ d / g = d) := fun e => by rw [e, Nat.div_one, Nat.div_one]; exact ⟨rfl, rfl⟩
  generalize numQ s t d = q at *
  generalize t / g = n1 at *
  generalize d / g = n2 at *
  clear hct hcb hbT hbD hT hD hg hdl htl hd hG
  go_enter Tryz.func84, Tryz.ntmps84
  go_wp2_with fail
  have E : Ext w (w.alloc (.cells #[.bool s, .slice ta (toB 1000000000 t).length tc, .slice ba (toB 1000000000 d).length bc] 143)) := extA
  have X : Num3 w.heap.size (w.alloc (.cells #[.bool s, .slice ta (toB 1000000000 t).length tc, .slice ba (toB 1000000000 d).length bc] 143)) (.bool s) (.slice ta (toB 1000000000 t).length tc) (.slice ba (toB 1000000000 d).length bc) := ⟨by go_simp, by go_simp, by go_simp, by go_simp, by go_simp, by go_simp⟩
  have hW0 : w.heap.size < (w.alloc (.cells #[.bool s, .slice ta (toB 1000000000 t).length tc, .slice ba (toB 1000000000 d).length bc] 143)).heap.size := by simp
  generalize (w.alloc (.cells #[.bool s, .slice ta (toB 1000000000 t).length tc, .slice ba (toB 1000000000 d).length bc] 143)) = W0 at E X hW0 ⊢
  refine (HDV.out _ E).mono ?_
  rintro e w1 ⟨ga, gc, rfl, hgc, hgn, hE⟩
  have EV : Ext w1 (w1.alloc (.cells #[.int .u64 1] 164)) := extA
  replace X := (X.ext hE).ext EV
  replace E := (E.trans hE).trans EV
  have HGC := Lib.hid (hgc.ext EV)
  have HGN : Hid (∀ p, ga = some p → p.block ≠ w.heap.size) := fun p hp => by have h1 := hgn p hp; have h2 : w.heap.size < W0.heap.size := hW0; omega
  have HL := Lib.hid (cells_lit w1 164)
  clear hE EV hgc hgn
  go_wp2_with fail
  generalize (w1.alloc (.cells #[.int .u64 1] 164)) = w2 at X E HGC HL ⊢
  refine (compare1_any g _ ga gc w1.heap.size _ rfl (by omega) HGC.out HL.out).mono ?_
  rintro e w3 ⟨rfl, hE⟩
  replace X := X.ext hE
  replace E := E.trans hE
  replace HGC := Lib.hid (HGC.out.ext hE)
  clear hE HL
  have hwl : w.heap.size < w3.heap.size := cell_lt X.c0
  by_cases hle : g ≤ 1
  · obtain ⟨e1, e2⟩ := HG1.out (by omega)
    subst e1 e2
    obtain ⟨z, hz, hz0⟩ : ∃ z, ordN g 1 = z ∧ ¬ 0 < z := ⟨_, rfl, by have := ordN_le.2 hle; omega⟩
    rw [hz]
    have HC1 := Lib.hid (HCT.out.ext E)
    have HC2 := Lib.hid (HCB.out.ext E)
    clear hz
    go_wp2_with fail
    have hdr : Ext w3 w3.drew := extA
    have hS : w3.drew.cell? ⟨w.heap.size, 1, none⟩ = some (.slice ta (toB 1000000000 n1).length tc) ∧ w3.drew.cell? ⟨w.heap.size, 2, none⟩ = some (.slice ba (toB 1000000000 n2).length bc) := ⟨hdr.cell X.c1, hdr.cell X.c2⟩
    have x0 := hdr.cell X.c0
    have HEW := Lib.hid (E.trans hdr)
    have HC1w := Lib.hid (HC1.out.ext hdr)
    have HC2w := Lib.hid (HC2.out.ext hdr)
    refine wp_region_heldE 99 (fun w' => w'.cell? ⟨w.heap.size, 1, none⟩ = some (.slice ta (toB 1000000000 n1).length tc) ∧ w'.cell? ⟨w.heap.size, 2, none⟩ = some (.slice ba (toB 1000000000 n2).length bc)) (by kernel_rfl) ?_
    clear X E HC1 HC2 hdr
    ((refine eTk 0 ?_); (refine eTk 1 ?_); (refine eTk 3 ?_); (refine eTk 4 ?_))
    (refine wpAnyE_one (i := 2) (o := ?_) ?_ (by kernel_rfl) (fun K hK => ?_); rotate_left; (focus ((simp only [List.getElem?_toArray, List.getElem?_cons_succ, List.getElem?_cons_zero]; exact rfl))); go_simp; go_at_call 108; refine (HTX.out _ HEW.out _ _ HC1w.out).mono ?_; rintro e w8 ⟨rfl, hE8⟩; go_wp2_with fail; refine hK.out _ _ ?_ (fun hHeld => ?_); rotate_left; clear hK K; (try simp only [Act.put, List.setIfInBounds_toArray, List.set_cons_zero, List.set_cons_succ]))
    rotate_left
    · exact ⟨hE8.cell hS.1, hE8.cell hS.2⟩
    have hS2 : w8.cell? ⟨w.heap.size, 1, none⟩ = some (.slice ta (toB 1000000000 n1).length tc) ∧ w8.cell? ⟨w.heap.size, 2, none⟩ = some (.slice ba (toB 1000000000 n2).length bc) := ⟨hE8.cell hS.1, hE8.cell hS.2⟩
    replace x0 := hE8.cell x0
    have HE8 := Lib.hid (HEW.out.trans hE8)
    have HC8 := Lib.hid (HC2w.out.ext hE8)
    clear hE8 hS HEW HC1w HC2w
    (refine wpAnyE_one (i := 5) (o := ?_) ?_ (by kernel_rfl) (fun K hK => ?_); rotate_left; (focus ((simp only [List.getElem?_toArray, List.getElem?_cons_succ, List.getElem?_cons_zero]; exact rfl))); go_simp; go_at_call 108; refine (HDX.out _ HE8.out _ _ HC8.out).mono ?_; rintro e w9 ⟨rfl, hE9⟩; go_wp2_with fail; refine hK.out _ _ ?_ (fun hHeld => ?_); rotate_left; clear hK K; (try simp only [Act.put, List.setIfInBounds_toArray, List.set_cons_zero, List.set_cons_succ]))
    rotate_left
    · exact ⟨hE9.cell hS2.1, hE9.cell hS2.2⟩
    replace x0 := hE9.cell x0
    have E := HE8.out.trans hE9
    clear hE9 hS2 HE8 HC8
    ((refine eTk 6 ?_); (refine eTk 7 ?_))
    refine wpAnyE_done (by kernel_rfl) ?_ _
    clear hHeld HTX HDX HDV HO1 HO2 HCT HCB HG1
    by_cases hb1 : 60 < T.length
    · have HE := Lib.hid (HMP.out.2 (.inl hb1))
      rw [decide_eq_true hb1] at HL1
      clear hb1 HMP
      go_wp2_with (first
        | (go_at_call 98; (with_reducible refine (HL1.out _).mono ?_); rintro e w' ⟨rfl, hE⟩; replace x0 := hE.cell x0; replace E := E.trans hE; clear hE)
        | (go_at_call 98; (with_reducible refine (HL2.out _).mono ?_); rintro e w' ⟨rfl, hE⟩; replace x0 := hE.cell x0; replace E := E.trans hE; clear hE))
      go_ret2
      exact ⟨by rw [HE.out.1, HE.out.2]; rfl, E⟩
    by_cases hb2 : 60 < D.length
    · have HE := Lib.hid (HMP.out.2 (.inr hb2))
      rw [decide_eq_false hb1] at HL1
      rw [decide_eq_true hb2] at HL2
      clear hb1 hb2 HMP
      go_wp2_with (first
        | (go_at_call 98; (with_reducible refine (HL1.out _).mono ?_); rintro e w' ⟨rfl, hE⟩; replace x0 := hE.cell x0; replace E := E.trans hE; clear hE)
        | (go_at_call 98; (with_reducible refine (HL2.out _).mono ?_); rintro e w' ⟨rfl, hE⟩; replace x0 := hE.cell x0; replace E := E.trans hE; clear hE))
      go_ret2
      exact ⟨by rw [HE.out.1, HE.out.2]; rfl, E⟩
    have HE := Lib.hid (HMP.out.1 (fun h => h.elim hb1 hb2))
    rw [decide_eq_false hb1] at HL1
    rw [decide_eq_false hb2] at HL2
    clear HMP
    have a1 := app_txt [45] T
    have a2 := app_txt [47] D
    have a3 := app_txt T (47 :: D)
    have a4 := app_txt (45 :: T) (47 :: D)
    have l1 : ¬ 9223372036854775807 < 1 + T.length := by omega
    have l2 : ¬ 9223372036854775807 < 1 + D.length := by omega
    have l3 : ¬ 9223372036854775807 < T.length + (D.length + 1) := by omega
    have l4 : ¬ 9223372036854775807 < T.length + 1 + (D.length + 1) := by omega
    by_cases hD1 : D = [49]
    · have d1 : (D == [49]) = true := by rw [hD1]; rfl
      have HJD := Lib.hid hD1
      clear hD1
      cases s
      · have HJ : Hid (joinT false T D = T) := by show _ = _; unfold joinT; rw [if_pos HJD.out]; simp
        go_wp2_with (first
          | (go_at_call 98; (with_reducible refine (HL1.out _).mono ?_); rintro e w' ⟨rfl, hE⟩; replace x0 := hE.cell x0; replace E := E.trans hE; clear hE)
          | (go_at_call 98; (with_reducible refine (HL2.out _).mono ?_); rintro e w' ⟨rfl, hE⟩; replace x0 := hE.cell x0; replace E := E.trans hE; clear hE))
        go_ret2
        exact ⟨by rw [HE.out.1, HE.out.2, HJ.out]; rfl, E⟩
      · by_cases hT0 : T = [48]
        · have t1 : (T == [48]) = true := by rw [hT0]; rfl
          have HJ : Hid (joinT true T D = T) := by show _ = _; unfold joinT; rw [if_pos HJD.out, hT0]; simp
          clear hT0
          go_wp2_with (first
            | (go_at_call 98; (with_reducible refine (HL1.out _).mono ?_); rintro e w' ⟨rfl, hE⟩; replace x0 := hE.cell x0; replace E := E.trans hE; clear hE)
            | (go_at_call 98; (with_reducible refine (HL2.out _).mono ?_); rintro e w' ⟨rfl, hE⟩; replace x0 := hE.cell x0; replace E := E.trans hE; clear hE))
          go_ret2
          exact ⟨by rw [HE.out.1, HE.out.2, HJ.out]; rfl, E⟩
        · have t1 : (T == [48]) = false := by rw [beq_eq_false_iff_ne]; exact hT0
          have HJ : Hid (joinT true T D = 45 :: T) := by show _ = _; unfold joinT; rw [if_pos HJD.out, decide_eq_true hT0]; simp
          clear hT0
          go_wp2_with (first
            | (go_at_call 98; (with_reducible refine (HL1.out _).mono ?_); rintro e w' ⟨rfl, hE⟩; replace x0 := hE.cell x0; replace E := E.trans hE; clear hE)
            | (go_at_call 98; (with_reducible refine (HL2.out _).mono ?_); rintro e w' ⟨rfl, hE⟩; replace x0 := hE.cell x0; replace E := E.trans hE; clear hE))
          go_ret2
          exact ⟨by rw [HE.out.1, HE.out.2, HJ.out]; rfl, E⟩
    · have d1 : (D == [49]) = false := by rw [beq_eq_false_iff_ne]; exact hD1
      have HJD := Lib.hid hD1
      clear hD1
      cases s
      · have HJ : Hid (joinT false T D = T ++ 47 :: D) := by show _ = _; unfold joinT; rw [if_neg HJD.out]; simp
        go_wp2_with (first
          | (go_at_call 98; (with_reducible refine (HL1.out _).mono ?_); rintro e w' ⟨rfl, hE⟩; replace x0 := hE.cell x0; replace E := E.trans hE; clear hE)
          | (go_at_call 98; (with_reducible refine (HL2.out _).mono ?_); rintro e w' ⟨rfl, hE⟩; replace x0 := hE.cell x0; replace E := E.trans hE; clear hE))
        go_ret2
        exact ⟨by rw [HE.out.1, HE.out.2, HJ.out]; rfl, E⟩
      · by_cases hT0 : T = [48]
        · have t1 : (T == [48]) = true := by rw [hT0]; rfl
          have HJ : Hid (joinT true T D = T ++ 47 :: D) := by show _ = _; unfold joinT; rw [if_neg HJD.out, hT0]; simp
          clear hT0
          go_wp2_with (first
            | (go_at_call 98; (with_reducible refine (HL1.out _).mono ?_); rintro e w' ⟨rfl, hE⟩; replace x0 := hE.cell x0; replace E := E.trans hE; clear hE)
            | (go_at_call 98; (with_reducible refine (HL2.out _).mono ?_); rintro e w' ⟨rfl, hE⟩; replace x0 := hE.cell x0; replace E := E.trans hE; clear hE))
          go_ret2
          exact ⟨by rw [HE.out.1, HE.out.2, HJ.out]; rfl, E⟩
        · have t1 : (T == [48]) = false := by rw [beq_eq_false_iff_ne]; exact hT0
          have HJ : Hid (joinT true T D = (45 :: T) ++ 47 :: D) := by show _ = _; unfold joinT; rw [if_neg HJD.out, decide_eq_true hT0]; simp
          clear hT0
          go_wp2_with (first
            | (go_at_call 98; (with_reducible refine (HL1.out _).mono ?_); rintro e w' ⟨rfl, hE⟩; replace x0 := hE.cell x0; replace E := E.trans hE; clear hE)
            | (go_at_call 98; (with_reducible refine (HL2.out _).mono ?_); rintro e w' ⟨rfl, hE⟩; replace x0 := hE.cell x0; replace E := E.trans hE; clear hE))
          go_ret2
          exact ⟨by rw [HE.out.1, HE.out.2, HJ.out]; rfl, E⟩
  · obtain ⟨z, hz, hz0⟩ : ∃ z, ordN g 1 = z ∧ 0 < z := ⟨_, rfl, by
      have h : ¬ ordN g 1 ≤ 0 := fun h => hle (ordN_le.1 h)
      omega⟩
    rw [hz]
    clear hz
    obtain ⟨x0, x1, x2, g0, g1, g2⟩ := X
    go_wp2_with fail
    refine (HO1.out _ E ga gc HGC.out).mono ?_
    rintro e w4 ⟨qa, qc, qb, qd, rfl, hq1, hq2, hqn, hqm, hE⟩
    have X := (Num3.mk x0 x1 x2 g0 g1 g2).ext hE
    have hqx : ∀ p, qa = some p → p.block ≠ w.heap.size := fun p hp => by have := hqn p hp; omega
    have HQ1 := Lib.hid (hq1.set (c := w.heap.size) (o := 1) (v := .slice qa (toB 1000000000 n1).length qc) hqx)
    have HQX := Lib.hid hqx
    replace E := E.trans hE
    have HX := Lib.hid (X.set1 (.slice qa (toB 1000000000 n1).length qc))
    have HGC := Lib.hid ((HGC.out.ext hE))
    have hwl4 : w.heap.size < w4.heap.size := cell_lt X.c0
    clear x0 x1 x2 g0 g1 g2 hq1 hq2 hqn hqm hE hqx
    obtain ⟨x0, x1, x2, g0, g1, g2⟩ := X
    have E5 : Ext w (w4.setCell ⟨w.heap.size, 1, none⟩ (.slice qa (toB 1000000000 n1).length qc)) := E.set (Nat.le_refl _) _
    have hgx : Hid (CellsN .u64 (w4.setCell ⟨w.heap.size, 1, none⟩ (.slice qa (toB 1000000000 n1).length qc)) ga (toB 1000000000 g)) := HGC.out.set (HGN.out)
    go_wp2_with fail
    generalize w4.setCell ⟨w.heap.size, 1, none⟩ (.slice qa (toB 1000000000 n1).length qc) = w5 at HX HQ1 E5 hgx ⊢
    clear x0 x1 x2 g0 g1 g2 E HGC
    refine (HO2.out _ E5 ga gc hgx.out).mono ?_
    rintro e w7 ⟨ra, rc, rb, rd, rfl, hr1, hr2, hrn, hrm, hE⟩
    have hw5 : w.heap.size < w5.heap.size := cell_lt HX.out.c0
    have X := HX.out.ext hE
    have hrx : ∀ p, ra = some p → p.block ≠ w.heap.size := fun p hp => by have := hrn p hp; omega
    have HC2 := Lib.hid (hr1.set (c := w.heap.size) (o := 2) (v := .slice ra (toB 1000000000 n2).length rc) hrx)
    have HC1 := Lib.hid ((HQ1.out.ext hE).set (c := w.heap.size) (o := 2) (v := .slice ra (toB 1000000000 n2).length rc) HQX.out)
    have E6 : Ext w (w7.setCell ⟨w.heap.size, 2, none⟩ (.slice ra (toB 1000000000 n2).length rc)) := (E5.trans hE).set (Nat.le_refl _) _
    have HX6 := Lib.hid (X.set2 (.slice ra (toB 1000000000 n2).length rc))
    clear hr1 hr2 hrn hrm hE hrx HX HQ1 HQX E5 hgx
    obtain ⟨x0, x1, x2, g0, g1, g2⟩ := X
    go_wp2_with fail
    generalize w7.setCell ⟨w.heap.size, 2, none⟩ (.slice ra (toB 1000000000 n2).length rc) = w6 at HX6 HC1 HC2 E6 ⊢
    clear x0 x1 x2 g0 g1 g2
    have X := HX6.out
    have E := E6
    clear E6 HX6
    have hdr : Ext w6 w6.drew := extA
    have hS : w6.drew.cell? ⟨w.heap.size, 1, none⟩ = some (.slice qa (toB 1000000000 n1).length qc) ∧ w6.drew.cell? ⟨w.heap.size, 2, none⟩ = some (.slice ra (toB 1000000000 n2).length rc) := ⟨hdr.cell X.c1, hdr.cell X.c2⟩
    have x0 := hdr.cell X.c0
    have HEW := Lib.hid (E.trans hdr)
    have HC1w := Lib.hid (HC1.out.ext hdr)
    have HC2w := Lib.hid (HC2.out.ext hdr)
    refine wp_region_heldE 99 (fun w' => w'.cell? ⟨w.heap.size, 1, none⟩ = some (.slice qa (toB 1000000000 n1).length qc) ∧ w'.cell? ⟨w.heap.size, 2, none⟩ = some (.slice ra (toB 1000000000 n2).length rc)) (by kernel_rfl) ?_
    clear X E HC1 HC2 hdr
    ((refine eTk 0 ?_); (refine eTk 1 ?_); (refine eTk 3 ?_); (refine eTk 4 ?_))
    (refine wpAnyE_one (i := 2) (o := ?_) ?_ (by kernel_rfl) (fun K hK => ?_); rotate_left; (focus ((simp only [List.getElem?_toArray, List.getElem?_cons_succ, List.getElem?_cons_zero]; exact rfl))); go_simp; go_at_call 108; refine (HTX.out _ HEW.out _ _ HC1w.out).mono ?_; rintro e w8 ⟨rfl, hE8⟩; go_wp2_with fail; refine hK.out _ _ ?_ (fun hHeld => ?_); rotate_left; clear hK K; (try simp only [Act.put, List.setIfInBounds_toArray, List.set_cons_zero, List.set_cons_succ]))
    rotate_left
    · exact ⟨hE8.cell hS.1, hE8.cell hS.2⟩
    have hS2 : w8.cell? ⟨w.heap.size, 1, none⟩ = some (.slice qa (toB 1000000000 n1).length qc) ∧ w8.cell? ⟨w.heap.size, 2, none⟩ = some (.slice ra (toB 1000000000 n2).length rc) := ⟨hE8.cell hS.1, hE8.cell hS.2⟩
    replace x0 := hE8.cell x0
    have HE8 := Lib.hid (HEW.out.trans hE8)
    have HC8 := Lib.hid (HC2w.out.ext hE8)
    clear hE8 hS HEW HC1w HC2w
    (refine wpAnyE_one (i := 5) (o := ?_) ?_ (by kernel_rfl) (fun K hK => ?_); rotate_left; (focus ((simp only [List.getElem?_toArray, List.getElem?_cons_succ, List.getElem?_cons_zero]; exact rfl))); go_simp; go_at_call 108; refine (HDX.out _ HE8.out _ _ HC8.out).mono ?_; rintro e w9 ⟨rfl, hE9⟩; go_wp2_with fail; refine hK.out _ _ ?_ (fun hHeld => ?_); rotate_left; clear hK K; (try simp only [Act.put, List.setIfInBounds_toArray, List.set_cons_zero, List.set_cons_succ]))
    rotate_left
    · exact ⟨hE9.cell hS2.1, hE9.cell hS2.2⟩
    replace x0 := hE9.cell x0
    have E := HE8.out.trans hE9
    clear hE9 hS2 HE8 HC8
    ((refine eTk 6 ?_); (refine eTk 7 ?_))
    refine wpAnyE_done (by kernel_rfl) ?_ _
    clear hHeld HTX HDX HDV HO1 HO2 HCT HCB HG1
    by_cases hb1 : 60 < T.length
    · have HE := Lib.hid (HMP.out.2 (.inl hb1))
      rw [decide_eq_true hb1] at HL1
      clear hb1 HMP
      go_wp2_with (first
        | (go_at_call 98; (with_reducible refine (HL1.out _).mono ?_); rintro e w' ⟨rfl, hE⟩; replace x0 := hE.cell x0; replace E := E.trans hE; clear hE)
        | (go_at_call 98; (with_reducible refine (HL2.out _).mono ?_); rintro e w' ⟨rfl, hE⟩; replace x0 := hE.cell x0; replace E := E.trans hE; clear hE))
      go_ret2
      exact ⟨by rw [HE.out.1, HE.out.2]; rfl, E⟩
    by_cases hb2 : 60 < D.length
    · have HE := Lib.hid (HMP.out.2 (.inr hb2))
      rw [decide_eq_false hb1] at HL1
      rw [decide_eq_true hb2] at HL2
      clear hb1 hb2 HMP
      go_wp2_with (first
        | (go_at_call 98; (with_reducible refine (HL1.out _).mono ?_); rintro e w' ⟨rfl, hE⟩; replace x0 := hE.cell x0; replace E := E.trans hE; clear hE)
        | (go_at_call 98; (with_reducible refine (HL2.out _).mono ?_); rintro e w' ⟨rfl, hE⟩; replace x0 := hE.cell x0; replace E := E.trans hE; clear hE))
      go_ret2
      exact ⟨by rw [HE.out.1, HE.out.2]; rfl, E⟩
    have HE := Lib.hid (HMP.out.1 (fun h => h.elim hb1 hb2))
    rw [decide_eq_false hb1] at HL1
    rw [decide_eq_false hb2] at HL2
    clear HMP
    have a1 := app_txt [45] T
    have a2 := app_txt [47] D
    have a3 := app_txt T (47 :: D)
    have a4 := app_txt (45 :: T) (47 :: D)
    have l1 : ¬ 9223372036854775807 < 1 + T.length := by omega
    have l2 : ¬ 9223372036854775807 < 1 + D.length := by omega
    have l3 : ¬ 9223372036854775807 < T.length + (D.length + 1) := by omega
    have l4 : ¬ 9223372036854775807 < T.length + 1 + (D.length + 1) := by omega
    by_cases hD1 : D = [49]
    · have d1 : (D == [49]) = true := by rw [hD1]; rfl
      have HJD := Lib.hid hD1
      clear hD1
      cases s
      · have HJ : Hid (joinT false T D = T) := by show _ = _; unfold joinT; rw [if_pos HJD.out]; simp
        go_wp2_with (first
          | (go_at_call 98; (with_reducible refine (HL1.out _).mono ?_); rintro e w' ⟨rfl, hE⟩; replace x0 := hE.cell x0; replace E := E.trans hE; clear hE)
          | (go_at_call 98; (with_reducible refine (HL2.out _).mono ?_); rintro e w' ⟨rfl, hE⟩; replace x0 := hE.cell x0; replace E := E.trans hE; clear hE))
        go_ret2
        exact ⟨by rw [HE.out.1, HE.out.2, HJ.out]; rfl, E⟩
      · by_cases hT0 : T = [48]
        · have t1 : (T == [48]) = true := by rw [hT0]; rfl
          have HJ : Hid (joinT true T D = T) := by show _ = _; unfold joinT; rw [if_pos HJD.out, hT0]; simp
          clear hT0
          go_wp2_with (first
            | (go_at_call 98; (with_reducible refine (HL1.out _).mono ?_); rintro e w' ⟨rfl, hE⟩; replace x0 := hE.cell x0; replace E := E.trans hE; clear hE)
            | (go_at_call 98; (with_reducible refine (HL2.out _).mono ?_); rintro e w' ⟨rfl, hE⟩; replace x0 := hE.cell x0; replace E := E.trans hE; clear hE))
          go_ret2
          exact ⟨by rw [HE.out.1, HE.out.2, HJ.out]; rfl, E⟩
        · have t1 : (T == [48]) = false := by rw [beq_eq_false_iff_ne]; exact hT0
          have HJ : Hid (joinT true T D = 45 :: T) := by show _ = _; unfold joinT; rw [if_pos HJD.out, decide_eq_true hT0]; simp
          clear hT0
          go_wp2_with (first
            | (go_at_call 98; (with_reducible refine (HL1.out _).mono ?_); rintro e w' ⟨rfl, hE⟩; replace x0 := hE.cell x0; replace E := E.trans hE; clear hE)
            | (go_at_call 98; (with_reducible refine (HL2.out _).mono ?_); rintro e w' ⟨rfl, hE⟩; replace x0 := hE.cell x0; replace E := E.trans hE; clear hE))
          go_ret2
          exact ⟨by rw [HE.out.1, HE.out.2, HJ.out]; rfl, E⟩
    · have d1 : (D == [49]) = false := by rw [beq_eq_false_iff_ne]; exact hD1
      have HJD := Lib.hid hD1
      clear hD1
      cases s
      · have HJ : Hid (joinT false T D = T ++ 47 :: D) := by show _ = _; unfold joinT; rw [if_neg HJD.out]; simp
        go_wp2_with (first
          | (go_at_call 98; (with_reducible refine (HL1.out _).mono ?_); rintro e w' ⟨rfl, hE⟩; replace x0 := hE.cell x0; replace E := E.trans hE; clear hE)
          | (go_at_call 98; (with_reducible refine (HL2.out _).mono ?_); rintro e w' ⟨rfl, hE⟩; replace x0 := hE.cell x0; replace E := E.trans hE; clear hE))
        go_ret2
        exact ⟨by rw [HE.out.1, HE.out.2, HJ.out]; rfl, E⟩
      · by_cases hT0 : T = [48]
        · have t1 : (T == [48]) = true := by rw [hT0]; rfl
          have HJ : Hid (joinT true T D = T ++ 47 :: D) := by show _ = _; unfold joinT; rw [if_neg HJD.out, hT0]; simp
          clear hT0
          go_wp2_with (first
            | (go_at_call 98; (with_reducible refine (HL1.out _).mono ?_); rintro e w' ⟨rfl, hE⟩; replace x0 := hE.cell x0; replace E := E.trans hE; clear hE)
            | (go_at_call 98; (with_reducible refine (HL2.out _).mono ?_); rintro e w' ⟨rfl, hE⟩; replace x0 := hE.cell x0; replace E := E.trans hE; clear hE))
          go_ret2
          exact ⟨by rw [HE.out.1, HE.out.2, HJ.out]; rfl, E⟩
        · have t1 : (T == [48]) = false := by rw [beq_eq_false_iff_ne]; exact hT0
          have HJ : Hid (joinT true T D = (45 :: T) ++ 47 :: D) := by show _ = _; unfold joinT; rw [if_neg HJD.out, decide_eq_true hT0]; simp
          clear hT0
          go_wp2_with (first
            | (go_at_call 98; (with_reducible refine (HL1.out _).mono ?_); rintro e w' ⟨rfl, hE⟩; replace x0 := hE.cell x0; replace E := E.trans hE; clear hE)
            | (go_at_call 98; (with_reducible refine (HL2.out _).mono ?_); rintro e w' ⟨rfl, hE⟩; replace x0 := hE.cell x0; replace E := E.trans hE; clear hE))
          go_ret2
          exact ⟨by rw [HE.out.1, HE.out.2, HJ.out]; rfl, E⟩
end Go.Proofs.YtbpjbhbbkonjlaaGreatDoor
namespace Go.Proofs.YtbpjbhbbkonjlaaGreatDoor
open Go.RowKit
open Go.Lib (decDigits)
end Go.Proofs.YtbpjbhbbkonjlaaGreatDoor
namespace Go.Proofs.YtbpjbhbbkonjlaaGreatDoor
open Go.RowKit
open Go.Lib (decDigits)
theorem neg_int {s : Txt} (h : IntS s) : decide (intV s < 0) = negS s := by
  unfold intV
  cases hn : negS s with
  | false => rw [if_neg (by simp)]; exact decide_eq_false (by omega)
  | true =>
    rw [if_pos rfl]
    refine decide_eq_true ?_
    have h0 : decV (bareS s) ≠ 0 := fun e => by
      have h1 := canon_zero h.1 e
      have h2 := neg_cons hn
      rw [h1] at h2
      exact h.2 h2
    omega
theorem make_num {s t : Txt} (hs : intE s = 0) (ht : intE t = 0) (h0 : t ≠ [48]) :
    makeR s t = resQ (numQ (negS s != negS t) (decV (bareS s)) (decV (bareS t))) ∧ decV (bareS t) ≠ 0 := by
  obtain ⟨h1, _⟩ := intE_zero hs
  obtain ⟨h2, _⟩ := intE_zero ht
  have hz : intV t ≠ 0 := fun e => h0 ((int_zero h2).2 e)
  refine ⟨?_, fun e => hz (by have := intV_abs t; omega)⟩
  unfold makeR ifOk
  rw [if_pos hs, if_pos ht, if_neg h0, ← int_div hz, neg_int h1, neg_int h2, intV_abs, intV_abs]
theorem make_e1 {s t : Txt} (hs : intE s ≠ 0) : makeR s t = ([], intE s) := by unfold makeR ifOk badR; rw [if_neg hs]
theorem make_e2 {s t : Txt} (hs : intE s = 0) (ht : intE t ≠ 0) : makeR s t = ([], intE t) := by unfold makeR ifOk badR; rw [if_pos hs, if_neg ht]
theorem make_z {s t : Txt} (hs : intE s = 0) (ht : intE t = 0) (h0 : t = [48]) : makeR s t = ([], 10) := by unfold makeR ifOk; rw [if_pos hs, if_pos ht, if_pos h0]
def ResP (r : Res) (w : World) (e : Ending) (w' : World) : Prop := e = .returned (.tuple #[txt r.1, .int .i64 (r.2 : Nat)]) ∧ Ext w w'
end Go.Proofs.YtbpjbhbbkonjlaaGreatDoor
namespace Go.Proofs.YtbpjbhbbkonjlaaGreatDoor
open Go.RowKit
end Go.Proofs.YtbpjbhbbkonjlaaGreatDoor
namespace Go.Proofs.YtbpjbhbbkonjlaaGreatDoor
open Go.RowKit
open Go.Lib (decDigits itoa)
theorem dec_len19 {n : Nat} (h : n ≤ 9223372036854775808) : (decDigits n).length ≤ 19 := (digits_len_le n 19 (by omega)).2 (by omega)
theorem itoa_len {n : Int} (h1 : -9223372036854775808 ≤ n) (h2 : n ≤ 9223372036854775807) : (itoa n).length ≤ 20 := by
  rw [itoa_eq]
  have := dec_len19 (n := n.natAbs) (by omega)
  split
  · rw [List.length_cons]; omega
  · omega
end Go.Proofs.YtbpjbhbbkonjlaaGreatDoor
namespace Go.Proofs.YtbpjbhbbkonjlaaGreatDoor
open Go.RowKit
def OpOk (x : Num) (w : World) (e : Ending) (w' : World) : Prop := ∃ z, e = .returned (.tuple #[z, .int .i64 0]) ∧ NumV w' z x ∧ NewN w.heap.size z ∧ Ext w w'
set_option maxHeartbeats 8000000 in
set_option maxRecDepth 100000 in
theorem op0_any (x y : Num) (v u : Value) (w : World) (hv : NumV w v x) (hu : NumV w u y) (hx : LenN 40 x) (hy : LenN 40 y) :
    Calls Tryz.prog 102 #[v, u] w (OpOk (sumN x y) w) := by
  have HV := Lib.hid hv
  have HU := Lib.hid hu
  have HLX := Lib.hid hx
  have HLY := Lib.hid hy
  obtain ⟨ta, tc, ba, bc, rfl, h1, h2⟩ := hv
  obtain ⟨ua, uc, va, vc, rfl, h3, h4⟩ := hu
  obtain ⟨s, t, d⟩ := x
  obtain ⟨r, p, q⟩ := y
  obtain ⟨l1, l2⟩ := hx
  obtain ⟨l3, l4⟩ := hy
  dsimp only at h1 h2 h3 h4 l1 l2 l3 l4 ⊢
  have HS := Lib.hid (fun W (hW : Ext w W) => sum_any (s, t, d) (r, p, q) _ _ W (HV.out.ext hW) (HU.out.ext hW) HLX.out HLY.out)
  generalize sumN (s, t, d) (r, p, q) = SN at *
  clear h1 h2 h3 h4
  have E : Ext w (((w.alloc (.cells #[.bool s, (.slice ta (toB 1000000000 t).length tc), (.slice ba (toB 1000000000 d).length bc)] 143)).alloc (.cells #[.bool r, (.slice ua (toB 1000000000 p).length uc), (.slice va (toB 1000000000 q).length vc)] 143)).alloc (.cells #[.bool false, .slice none 0 0, .slice none 0 0] 143)) := extA
  have A : Num3 w.heap.size (((w.alloc (.cells #[.bool s, (.slice ta (toB 1000000000 t).length tc), (.slice ba (toB 1000000000 d).length bc)] 143)).alloc (.cells #[.bool r, (.slice ua (toB 1000000000 p).length uc), (.slice va (toB 1000000000 q).length vc)] 143)).alloc (.cells #[.bool false, .slice none 0 0, .slice none 0 0] 143)) (.bool s) (.slice ta (toB 1000000000 t).length tc) (.slice ba (toB 1000000000 d).length bc) := ⟨by go_simp, by go_simp, by go_simp, by go_simp, by go_simp, by go_simp⟩
  have B : Num3 (w.heap.size + 1) (((w.alloc (.cells #[.bool s, (.slice ta (toB 1000000000 t).length tc), (.slice ba (toB 1000000000 d).length bc)] 143)).alloc (.cells #[.bool r, (.slice ua (toB 1000000000 p).length uc), (.slice va (toB 1000000000 q).length vc)] 143)).alloc (.cells #[.bool false, .slice none 0 0, .slice none 0 0] 143)) (.bool r) (.slice ua (toB 1000000000 p).length uc) (.slice va (toB 1000000000 q).length vc) := ⟨by go_simp, by go_simp, by go_simp, by go_simp, by go_simp, by go_simp⟩
  have R : Num3 (w.heap.size + 1 + 1) (((w.alloc (.cells #[.bool s, (.slice ta (toB 1000000000 t).length tc), (.slice ba (toB 1000000000 d).length bc)] 143)).alloc (.cells #[.bool r, (.slice ua (toB 1000000000 p).length uc), (.slice va (toB 1000000000 q).length vc)] 143)).alloc (.cells #[.bool false, .slice none 0 0, .slice none 0 0] 143)) (.bool false) (.slice none 0 0) (.slice none 0 0) := ⟨by go_simp, by go_simp, by go_simp, by go_simp, by go_simp, by go_simp⟩
  go_enter Tryz.func102, Tryz.ntmps102
  go_wp2_with fail
  generalize (((w.alloc (.cells #[.bool s, (.slice ta (toB 1000000000 t).length tc), (.slice ba (toB 1000000000 d).length bc)] 143)).alloc (.cells #[.bool r, (.slice ua (toB 1000000000 p).length uc), (.slice va (toB 1000000000 q).length vc)] 143)).alloc (.cells #[.bool false, .slice none 0 0, .slice none 0 0] 143)) = W at E A B R ⊢
  refine (HS.out _ E).mono ?_
  rintro e w4 ⟨z, rfl, hz, hn, hE⟩
  have hz0 : w.heap.size + 1 + 1 < W.heap.size := cell_lt R.c0
  replace R := R.ext hE
  replace E := E.trans hE
  clear hE
  obtain ⟨za, zc, ya, yc, rfl, k1, k2⟩ := hz
  have HZ := Lib.hid (NumV.set (c := w.heap.size + 1 + 1) (o := 2) (u := .slice ya (toB 1000000000 SN.2.2).length yc) (NumV.set (c := w.heap.size + 1 + 1) (o := 1) (u := .slice za (toB 1000000000 SN.2.1).length zc) (NumV.set (c := w.heap.size + 1 + 1) (o := 0) (u := .bool SN.1) ⟨za, zc, ya, yc, rfl, k1, k2⟩ hn hz0) hn hz0) hn hz0)
  obtain ⟨c0, c1, c2, f0, f1, f2⟩ := R
  have HNN := Lib.hid (hn _ _ _ _ _ _ _ rfl)
  clear k1 k2 hn A B
  go_wp2_with fail
  refine bodyPost_ret (v := .tuple #[.agg #[.bool SN.1, .slice za (toB 1000000000 SN.2.1).length zc, .slice ya (toB 1000000000 SN.2.2).length yc], .int .i64 0]) (by rw [results_cell_tmp1 rfl]; go_simp) rfl ?_
  exact ⟨_, rfl, HZ.out, newN_mk (fun hl z hz => by have := (HNN.out.1 hl z hz); omega) (fun hl z hz => by have := (HNN.out.2 hl z hz); omega), extA⟩
set_option maxHeartbeats 8000000 in
set_option maxRecDepth 100000 in
theorem op2_any (x y : Num) (v u : Value) (w : World) (hv : NumV w v x) (hu : NumV w u y) (hx : LenN 40 x) (hy : LenN 40 y) :
    Calls Tryz.prog 104 #[v, u] w (OpOk (mulN x y) w) := by
  have HV := Lib.hid hv
  have HU := Lib.hid hu
  have HLX := Lib.hid hx
  have HLY := Lib.hid hy
  obtain ⟨ta, tc, ba, bc, rfl, h1, h2⟩ := hv
  obtain ⟨ua, uc, va, vc, rfl, h3, h4⟩ := hu
  obtain ⟨s, t, d⟩ := x
  obtain ⟨r, p, q⟩ := y
  obtain ⟨l1, l2⟩ := hx
  obtain ⟨l3, l4⟩ := hy
  dsimp only at h1 h2 h3 h4 l1 l2 l3 l4 ⊢
  have HT1 := Lib.hid (fun W (hW : Ext w W) => (times_any t p _ _ ta ua tc uc W rfl rfl (by omega) (by omega) (h1.ext hW) (h3.ext hW)).mono fun _ _ h => h.newB)
  have HT2 := Lib.hid (fun W (hW : Ext w W) => (times_any d q _ _ ba va bc vc W rfl rfl (by omega) (by omega) (h2.ext hW) (h4.ext hW)).mono fun _ _ h => h.newB)
  have HSN := Lib.hid (show (mulN (s, t, d) (r, p, q)) = (s != r, t * p, d * q) from rfl)
  generalize (mulN (s, t, d) (r, p, q)) = SN at *
  generalize t * p = X1 at *
  generalize d * q = X2 at *
  clear h1 h2 h3 h4
  have E : Ext w (((w.alloc (.cells #[.bool s, (.slice ta (toB 1000000000 t).length tc), (.slice ba (toB 1000000000 d).length bc)] 143)).alloc (.cells #[.bool r, (.slice ua (toB 1000000000 p).length uc), (.slice va (toB 1000000000 q).length vc)] 143)).alloc (.cells #[.bool false, .slice none 0 0, .slice none 0 0] 143)) := extA
  have A : Num3 w.heap.size (((w.alloc (.cells #[.bool s, (.slice ta (toB 1000000000 t).length tc), (.slice ba (toB 1000000000 d).length bc)] 143)).alloc (.cells #[.bool r, (.slice ua (toB 1000000000 p).length uc), (.slice va (toB 1000000000 q).length vc)] 143)).alloc (.cells #[.bool false, .slice none 0 0, .slice none 0 0] 143)) (.bool s) (.slice ta (toB 1000000000 t).length tc) (.slice ba (toB 1000000000 d).length bc) := ⟨by go_simp, by go_simp, by go_simp, by go_simp, by go_simp, by go_simp⟩
  have B : Num3 (w.heap.size + 1) (((w.alloc (.cells #[.bool s, (.slice ta (toB 1000000000 t).length tc), (.slice ba (toB 1000000000 d).length bc)] 143)).alloc (.cells #[.bool r, (.slice ua (toB 1000000000 p).length uc), (.slice va (toB 1000000000 q).length vc)] 143)).alloc (.cells #[.bool false, .slice none 0 0, .slice none 0 0] 143)) (.bool r) (.slice ua (toB 1000000000 p).length uc) (.slice va (toB 1000000000 q).length vc) := ⟨by go_simp, by go_simp, by go_simp, by go_simp, by go_simp, by go_simp⟩
  have R : Num3 (w.heap.size + 1 + 1) (((w.alloc (.cells #[.bool s, (.slice ta (toB 1000000000 t).length tc), (.slice ba (toB 1000000000 d).length bc)] 143)).alloc (.cells #[.bool r, (.slice ua (toB 1000000000 p).length uc), (.slice va (toB 1000000000 q).length vc)] 143)).alloc (.cells #[.bool false, .slice none 0 0, .slice none 0 0] 143)) (.bool false) (.slice none 0 0) (.slice none 0 0) := ⟨by go_simp, by go_simp, by go_simp, by go_simp, by go_simp, by go_simp⟩
  go_enter Tryz.func104, Tryz.ntmps104
  go_wp2_with fail
  generalize (((w.alloc (.cells #[.bool s, (.slice ta (toB 1000000000 t).length tc), (.slice ba (toB 1000000000 d).length bc)] 143)).alloc (.cells #[.bool r, (.slice ua (toB 1000000000 p).length uc), (.slice va (toB 1000000000 q).length vc)] 143)).alloc (.cells #[.bool false, .slice none 0 0, .slice none 0 0] 143)) = W at E A B R ⊢
  have hdr : Ext W W.drew := extA
  replace A := A.ext hdr
  replace B := B.ext hdr
  replace R := R.ext hdr
  replace E := E.trans hdr
  have hS : W.drew.cell? ⟨w.heap.size, 0, none⟩ = some (.bool s) ∧ W.drew.cell? ⟨w.heap.size, 1, none⟩ = some (.slice ta (toB 1000000000 t).length tc) ∧ W.drew.cell? ⟨w.heap.size, 2, none⟩ = some (.slice ba (toB 1000000000 d).length bc) ∧ W.drew.cell? ⟨w.heap.size + 1, 0, none⟩ = some (.bool r) ∧ W.drew.cell? ⟨w.heap.size + 1, 1, none⟩ = some (.slice ua (toB 1000000000 p).length uc) ∧ W.drew.cell? ⟨w.heap.size + 1, 2, none⟩ = some (.slice va (toB 1000000000 q).length vc) := ⟨A.c0, A.c1, A.c2, B.c0, B.c1, B.c2⟩
  refine wp_region_heldE 16 (fun w' => w'.cell? ⟨w.heap.size, 0, none⟩ = some (.bool s) ∧ w'.cell? ⟨w.heap.size, 1, none⟩ = some (.slice ta (toB 1000000000 t).length tc) ∧ w'.cell? ⟨w.heap.size, 2, none⟩ = some (.slice ba (toB 1000000000 d).length bc) ∧ w'.cell? ⟨w.heap.size + 1, 0, none⟩ = some (.bool r) ∧ w'.cell? ⟨w.heap.size + 1, 1, none⟩ = some (.slice ua (toB 1000000000 p).length uc) ∧ w'.cell? ⟨w.heap.size + 1, 2, none⟩ = some (.slice va (toB 1000000000 q).length vc)) (by kernel_rfl) ?_
  clear hdr
  generalize W.drew = W at E A B R hS ⊢
  have hz0 : w.heap.size + 1 + 1 < W.heap.size := cell_lt R.c0
  ((refine eTk 0 ?_); (refine eTk 1 ?_); (refine eTk 2 ?_); (refine eTk 3 ?_); (refine eTk 4 ?_); (refine eTk 5 ?_); (refine eTk 6 ?_); (refine eTk 7 ?_); (refine eTk 8 ?_); (refine eTk 10 ?_); (refine eTk 11 ?_); (refine eTk 12 ?_); (refine eTk 13 ?_))
  (refine wpAnyE_one (i := 9) (o := ?_) ?_ (by kernel_rfl) (fun K hK => ?_); rotate_left; (focus ((simp only [List.getElem?_toArray, List.getElem?_cons_succ, List.getElem?_cons_zero]; exact rfl))); go_simp; go_at_call 105; refine (HT1.out _ E).mono ?_; rintro e w1 ⟨xa, xc, rfl, hx, hxn, hE⟩; go_wp2_with fail; refine hK.out _ _ ?_ (fun hHeld => ?_); rotate_left; clear hK K; (try simp only [Act.put, List.setIfInBounds_toArray, List.set_cons_zero, List.set_cons_succ]))
  rotate_left
  · exact ⟨hE.cell hS.1, hE.cell hS.2.1, hE.cell hS.2.2.1, hE.cell hS.2.2.2.1, hE.cell hS.2.2.2.2.1, hE.cell hS.2.2.2.2.2⟩
  replace A := A.ext hE
  replace B := B.ext hE
  replace R := R.ext hE
  replace E := E.trans hE
  replace hS : w1.cell? ⟨w.heap.size, 0, none⟩ = some (.bool s) ∧ w1.cell? ⟨w.heap.size, 1, none⟩ = some (.slice ta (toB 1000000000 t).length tc) ∧ w1.cell? ⟨w.heap.size, 2, none⟩ = some (.slice ba (toB 1000000000 d).length bc) ∧ w1.cell? ⟨w.heap.size + 1, 0, none⟩ = some (.bool r) ∧ w1.cell? ⟨w.heap.size + 1, 1, none⟩ = some (.slice ua (toB 1000000000 p).length uc) ∧ w1.cell? ⟨w.heap.size + 1, 2, none⟩ = some (.slice va (toB 1000000000 q).length vc) := ⟨hE.cell hS.1, hE.cell hS.2.1, hE.cell hS.2.2.1, hE.cell hS.2.2.2.1, hE.cell hS.2.2.2.2.1, hE.cell hS.2.2.2.2.2⟩
  have hSZ1 : Hid (w.heap.size + 1 + 1 < w1.heap.size) := cell_lt R.c0
  have HX := Lib.hid hx
  have HXN : Hid (∀ z, xa = some z → w.heap.size + 1 + 1 < z.block) := fun z hz => by have := hxn z hz; omega
  clear hE hHeld hx hxn
  (refine wpAnyE_one (i := 14) (o := ?_) ?_ (by kernel_rfl) (fun K hK => ?_); rotate_left; (focus ((simp only [List.getElem?_toArray, List.getElem?_cons_succ, List.getElem?_cons_zero]; exact rfl))); go_simp; go_at_call 105; refine (HT2.out _ E).mono ?_; rintro e w2 ⟨ya, yc, rfl, hy, hyn, hE⟩; go_wp2_with fail; refine hK.out _ _ ?_ (fun hHeld => ?_); rotate_left; clear hK K; (try simp only [Act.put, List.setIfInBounds_toArray, List.set_cons_zero, List.set_cons_succ]))
  rotate_left
  · exact ⟨hE.cell hS.1, hE.cell hS.2.1, hE.cell hS.2.2.1, hE.cell hS.2.2.2.1, hE.cell hS.2.2.2.2.1, hE.cell hS.2.2.2.2.2⟩
  replace A := A.ext hE
  replace B := B.ext hE
  replace R := R.ext hE
  replace E := E.trans hE
  replace hS : w2.cell? ⟨w.heap.size, 0, none⟩ = some (.bool s) ∧ w2.cell? ⟨w.heap.size, 1, none⟩ = some (.slice ta (toB 1000000000 t).length tc) ∧ w2.cell? ⟨w.heap.size, 2, none⟩ = some (.slice ba (toB 1000000000 d).length bc) ∧ w2.cell? ⟨w.heap.size + 1, 0, none⟩ = some (.bool r) ∧ w2.cell? ⟨w.heap.size + 1, 1, none⟩ = some (.slice ua (toB 1000000000 p).length uc) ∧ w2.cell? ⟨w.heap.size + 1, 2, none⟩ = some (.slice va (toB 1000000000 q).length vc) := ⟨hE.cell hS.1, hE.cell hS.2.1, hE.cell hS.2.2.1, hE.cell hS.2.2.2.1, hE.cell hS.2.2.2.2.1, hE.cell hS.2.2.2.2.2⟩
  have hz1 : w.heap.size + 1 + 1 < w1.heap.size := hSZ1.out
  replace HX := Lib.hid (HX.out.ext hE)
  have HY := Lib.hid hy
  have HYN : Hid (∀ z, ya = some z → w.heap.size + 1 + 1 < z.block) := fun z hz => by have := hyn z hz; omega
  clear hE hHeld hy hyn A B
  obtain ⟨c0, c1, c2, f0, f1, f2⟩ := R
  (refine eTk 15 ?_)
  (refine wpAnyE_free (i := 16) (o := ?_) ?_ (by kernel_rfl) (by kernel_rfl) (fun K hK => ?_); rotate_left; (focus ((simp only [List.getElem?_toArray, List.getElem?_cons_succ, List.getElem?_cons_zero]; exact rfl))); go_simp; refine hK.out _ _ ?_; clear hK K; (try simp only [Act.put, List.setIfInBounds_toArray, List.set_cons_zero, List.set_cons_succ]))
  ((refine ePu 17 ?_))
  refine wpAnyE_done (by kernel_rfl) ?_ _
  go_wp2_with fail
  refine bodyPost_ret (v := .tuple #[.agg #[.bool (!(s == r)), .slice xa (toB 1000000000 X1).length xc, .slice ya (toB 1000000000 X2).length yc], .int .i64 0]) (by rw [results_cell_tmp1 rfl]; go_simp) rfl ?_
  refine ⟨_, rfl, ?_, newN_mk (fun hl z hz => by have := HXN.out z hz; omega) (fun hl z hz => by have := HYN.out z hz; omega), extA⟩
  rw [HSN.out]
  refine ⟨xa, xc, ya, yc, rfl, ?_, ?_⟩
  · exact ((HX.out.set (fun z hz => Nat.ne_of_gt (HXN.out z hz))).set (fun z hz => Nat.ne_of_gt (HXN.out z hz))).set (fun z hz => Nat.ne_of_gt (HXN.out z hz))
  · exact ((HY.out.set (fun z hz => Nat.ne_of_gt (HYN.out z hz))).set (fun z hz => Nat.ne_of_gt (HYN.out z hz))).set (fun z hz => Nat.ne_of_gt (HYN.out z hz))
end Go.Proofs.YtbpjbhbbkonjlaaGreatDoor
namespace Go.Proofs.YtbpjbhbbkonjlaaGreatDoor
open Go.RowKit
theorem operations_any (w : World) :
    Calls Tryz.prog 83 #[] w fun e w' => e = .returned (.agg #[.func (.func 102) #[] #[], .func (.func 103) #[] #[], .func (.func 104) #[] #[], .func (.func 106) #[] #[]]) ∧ Ext w w' := by
  go_enter Tryz.func83, Tryz.ntmps83
  go_wp2_with fail
  trace_state
  refine bodyPost_ret (v := .agg #[.func (.func 102) #[] #[], .func (.func 103) #[] #[], .func (.func 104) #[] #[], .func (.func 106) #[] #[]]) (by rw [results_cell1 rfl]; go_simp) rfl ?_
  exact ⟨rfl, extA⟩
end Go.Proofs.YtbpjbhbbkonjlaaGreatDoor
namespace Go.Proofs.YtbpjbhbbkonjlaaGreatDoor
open Go.RowKit
theorem numOf_len {a : Txt} (h : fracE a = 0) : LenN 40 (numOf a) ∧ (numOf a).2.2 ≠ 0 := by
  obtain ⟨h1, h2, h3, h4, h5, _⟩ := frac_parts h
  have lim : ∀ n, n < 10 ^ 60 → (toB 1000000000 n).length ≤ 40 := fun n hn => toB_len (by omega) 40 (by omega)
  refine ⟨⟨?_, lim _ h5⟩, by show decV (lowS a) ≠ 0; omega⟩
  have e := intV_abs (topS a)
  exact lim _ (by show decV (bareS (topS a)) < _; rw [← e]; exact h2)
theorem lt_len {z k : Nat} (h : (toB 1000000000 z).length ≤ k) : z < 1000000000 ^ k := by
  have h1 := valB_lt (okB_toB (B := 1000000000) (by omega) z)
  rw [valB_toB (by omega)] at h1
  exact Nat.lt_of_lt_of_le h1 (Nat.pow_le_pow_right (by omega) h)
theorem sumN_len {x y : Num} (hx : LenN 40 x) (hy : LenN 40 y) : LenN 90 (sumN x y) := by
  obtain ⟨s, t, d⟩ := x
  obtain ⟨r, p, q⟩ := y
  have h1 := lt_len (mul_len hx.1 hy.2)
  have h2 := lt_len (mul_len hy.1 hx.2)
  have h3 := lt_len (mul_len hx.2 hy.2)
  have e : (1000000000 : Nat) ^ (40 + 40) * 2 ≤ 1000000000 ^ 90 := by
    have : (1000000000 : Nat) ^ 90 = 1000000000 ^ (40 + 40) * 1000000000 ^ 10 := by rw [← Nat.pow_add]
    rw [this]
    exact Nat.mul_le_mul_left _ (by omega)
  dsimp only at h1 h2 h3
  unfold sumN LenN
  dsimp only
  split
  · exact ⟨toB_len (by omega) 90 (by dsimp only; omega), toB_len (by omega) 90 (by dsimp only; omega)⟩
  · split
    · exact ⟨toB_len (by omega) 90 (by dsimp only; omega), toB_len (by omega) 90 (by dsimp only; omega)⟩
    · exact ⟨toB_len (by omega) 90 (by dsimp only; omega), toB_len (by omega) 90 (by dsimp only; omega)⟩
theorem mulN_len {x y : Num} (hx : LenN 40 x) (hy : LenN 40 y) : LenN 90 (mulN x y) :=
  ⟨Nat.le_trans (mul_len hx.1 hy.1) (by omega), Nat.le_trans (mul_len hx.2 hy.2) (by omega)⟩
def ResPost (r : Res) (w : World) (e : Ending) (w' : World) : Prop := e = .returned (.tuple #[txt r.1, .int .i64 (r.2 : Nat)]) ∧ Ext w w'
theorem bothE_zero {a b : Txt} (ha : fracE a = 0) (hb : fracE b = 0) : bothE a b = 0 := by unfold bothE; rw [if_pos ha, hb]
theorem bothE_left {a b : Txt} (ha : fracE a ≠ 0) : bothE a b = fracE a := by unfold bothE; rw [if_neg ha]
theorem bothE_right {a b : Txt} (ha : fracE a = 0) : bothE a b = fracE b := by unfold bothE; rw [if_pos ha]
theorem add_res {a b : Txt} : (fracE a ≠ 0 → addS a b = ([], fracE a)) ∧ (fracE a = 0 → fracE b ≠ 0 → addS a b = ([], fracE b)) ∧ (fracE a = 0 → fracE b = 0 → addS a b = resQ (fracQ a + fracQ b)) := by
  unfold addS ifOk badR
  refine ⟨fun h => ?_, fun h k => ?_, fun h k => ?_⟩
  · rw [bothE_left h, if_neg h]
  · rw [bothE_right h, if_neg k]
  · rw [bothE_zero h k, if_pos rfl]
theorem mul_res {a b : Txt} : (fracE a ≠ 0 → mulS a b = ([], fracE a)) ∧ (fracE a = 0 → fracE b ≠ 0 → mulS a b = ([], fracE b)) ∧ (fracE a = 0 → fracE b = 0 → mulS a b = resQ (fracQ a * fracQ b)) := by
  unfold mulS ifOk badR
  refine ⟨fun h => ?_, fun h k => ?_, fun h k => ?_⟩
  · rw [bothE_left h, if_neg h]
  · rw [bothE_right h, if_neg k]
  · rw [bothE_zero h k, if_pos rfl]
theorem op_index0 (W : World) : (Instr.index 149 (.agg #[.func (.func 102) #[] #[], .func (.func 103) #[] #[], .func (.func 104) #[] #[], .func (.func 106) #[] #[]]) (.int .i64 0)).run Tryz.prog W = .ok (.agg #[.func (.func 102) #[] #[]]) W := by
  simp [Instr.index, go_sem]
theorem op_index2 (W : World) : (Instr.index 149 (.agg #[.func (.func 102) #[] #[], .func (.func 103) #[] #[], .func (.func 104) #[] #[], .func (.func 106) #[] #[]]) (.int .i64 2)).run Tryz.prog W = .ok (.agg #[.func (.func 104) #[] #[]]) W := by
  simp [Instr.index, go_sem]
theorem op_field (W : World) (f : Nat) : (Instr.field 148 (.agg #[.func (.func f) #[] #[]]) 0).run Tryz.prog W = .ok (.func (.func f) #[] #[]) W := by
  simp [Instr.field, asAgg, go_sem]
end Go.Proofs.YtbpjbhbbkonjlaaGreatDoor
namespace Go.Proofs.YtbpjbhbbkonjlaaGreatDoor
open Go.RowKit
open Go.Lib (decDigits itoa)
theorem intE_form {s : Txt} (h : ¬ IntS s) : intE s = 3 := by unfold intE; rw [if_pos h]
theorem intE_long {s : Txt} (h : IntS s) (k : 60 < (bareS s).length) : intE s = 11 := by unfold intE; rw [if_neg (not_not_intro h), if_pos k]
theorem intE_short {s : Txt} (h : IntS s) (k : ¬ 60 < (bareS s).length) : intE s = 0 := by unfold intE; rw [if_neg (not_not_intro h), if_neg k]
theorem len_decP {s : Txt} (h : DigitL s) (hl : s.length ≤ 60) : (toB 1000000000 (decV s)).length ≤ 40 :=
  Nat.le_trans (toB_len (by omega) 7 (Nat.lt_of_lt_of_le (decV_lt h) (Nat.le_trans (Nat.pow_le_pow_right (by omega) hl) (by decide)))) (by omega)
set_option maxHeartbeats 8000000 in
set_option maxRecDepth 100000 in
theorem make_any (s t : Txt) (w : World) (hG : Glob w) (hsl : s.length ≤ 400) (htl : t.length ≤ 400) :
    Calls Tryz.prog 143 #[txt s, txt t] w (ResP (makeR s t) w) := by
  have HG := Lib.hid hG
  clear hG
  have HI : Hid (∀ x : Txt, x.length ≤ 400 → ∀ W, Calls Tryz.prog 97 #[txt x] W fun e w' => e = .returned (.bool (decide (IntS x))) ∧ Ext W w') := fun x hx W => integer_any x W (by omega)
  have HLG : Hid (∀ x : Txt, ∀ W, Calls Tryz.prog 98 #[txt x] W fun e w' => e = .returned (.bool (decide (60 < (bareS x).length))) ∧ Ext W w') := fun x W => long_any x W
  obtain ⟨R, hR⟩ : ∃ R, R = makeR s t := ⟨_, rfl⟩
  unfold ResP
  rw [← hR]
  have HR := Lib.hid hR
  clear hR
  have E0 : Ext w (w.alloc (.cells #[txt s, txt t] 9)) := extA
  have a0 : (w.alloc (.cells #[txt s, txt t] 9)).cell? ⟨w.heap.size, 0, none⟩ = some (txt s) := by go_simp
  have a1 : (w.alloc (.cells #[txt s, txt t] 9)).cell? ⟨w.heap.size, 1, none⟩ = some (txt t) := by go_simp
  go_enter Tryz.func143, Tryz.ntmps143
  go_wp2_with fail
  generalize (w.alloc (.cells #[txt s, txt t] 9)) = W at E0 a0 a1 ⊢
  go_loopw [15] (fun i wr => ∃ k : Nat, k ≤ 2 ∧ i = .int .i64 k ∧ Hid ((1 ≤ k → intE s = 0) ∧ (2 ≤ k → intE t = 0)) ∧ Ext W wr) (fun i _ => 2 - (intOf i).toNat)
  case atStart => exact ⟨0, by omega, rfl, ⟨fun h => by omega, fun h => by omega⟩, Ext.refl _⟩
  case round =>
    obtain ⟨k, hk, rfl, hin, he⟩ := hrel
    replace a0 := he.cell a0
    replace a1 := he.cell a1
    have E1 := E0.trans he
    by_cases hk2 : k < 2
    · obtain ⟨x, hx, hxl, hxc, hxe⟩ : ∃ x, (k = 0 ∧ x = s ∨ k = 1 ∧ x = t) ∧ x.length ≤ 400 ∧ wr.cell? ⟨w.heap.size, k, none⟩ = some (txt x) ∧ (intE x ≠ 0 → R = ([], intE x)) := by
        rcases k with _ | _ | k
        · exact ⟨s, .inl ⟨rfl, rfl⟩, hsl, a0, fun h => by rw [HR.out, make_e1 h]⟩
        · exact ⟨t, .inr ⟨rfl, rfl⟩, htl, a1, fun h => by rw [HR.out, make_e2 (hin.out.1 (by omega)) h]⟩
        · omega
      have HXE := Lib.hid hxe
      have HX := Lib.hid hx
      clear a0 a1 hxe hx
      by_cases h1 : IntS x
      · have HI1 := Lib.hid (HI.out x hxl)
        rw [decide_eq_true h1] at HI1
        by_cases h2 : 60 < (bareS x).length
        · have HL1 := Lib.hid (HLG.out x)
          rw [decide_eq_true h2] at HL1
          have HE := Lib.hid (HXE.out (by rw [intE_long h1 h2]; omega))
          rw [intE_long h1 h2] at HE
          clear h1 h2 HXE HX hin
          go_wp2_with (first
            | ((go_at_call 97; (with_reducible refine (HI1.out _).mono ?_); rintro e w1 ⟨rfl, hE⟩); replace E1 := E1.trans hE; clear hE)
            | ((go_at_call 98; (with_reducible refine (HL1.out _).mono ?_); rintro e w1 ⟨rfl, hE⟩); replace E1 := E1.trans hE; clear hE))
          go_ret2
          rw [HE.out]
          exact ⟨rfl, E1⟩
        · have HL1 := Lib.hid (HLG.out x)
          rw [decide_eq_false h2] at HL1
          have hin2 : Hid ((1 ≤ k + 1 → intE s = 0) ∧ (2 ≤ k + 1 → intE t = 0)) := by
            have h3 := intE_short h1 h2
            rcases HX.out with ⟨h4, h5⟩ | ⟨h4, h5⟩
            · rw [h5] at h3
              exact ⟨fun _ => h3, fun h => by omega⟩
            · rw [h5] at h3
              exact ⟨fun _ => hin.out.1 (by omega), fun _ => h3⟩
          clear h1 h2 HXE HX hin
          go_wp2_with (first
            | ((go_at_call 97; (with_reducible refine (HI1.out _).mono ?_); rintro e w1 ⟨rfl, hE⟩); replace he := he.trans hE; clear hE)
            | ((go_at_call 98; (with_reducible refine (HL1.out _).mono ?_); rintro e w1 ⟨rfl, hE⟩); replace he := he.trans hE; clear hE))
          refine ⟨⟨k + 1, by omega, by go_num, hin2, he⟩, by simp [intOf]; omega⟩
      · have HI1 := Lib.hid (HI.out x hxl)
        rw [decide_eq_false h1] at HI1
        have HE := Lib.hid (HXE.out (by rw [intE_form h1]; omega))
        rw [intE_form h1] at HE
        clear h1 HXE HX hin
        go_wp2_with ((go_at_call 97; (with_reducible refine (HI1.out _).mono ?_); rintro e w1 ⟨rfl, hE⟩); replace E1 := E1.trans hE; clear hE)
        go_ret2
        rw [HE.out]
        exact ⟨rfl, E1⟩
    · have hs := hin.out.1 (by omega)
      have ht := hin.out.2 (by omega)
      clear hin a0 a1 HI HLG
      by_cases h0 : t = [48]
      · have HE : Hid (R = ([], 10)) := by show _ = _; rw [HR.out, make_z hs ht h0]
        have hz : (t == [48]) = true := by rw [h0]; rfl
        clear h0 hs ht
        go_wp2
        go_ret2
        rw [HE.out]
        exact ⟨rfl, E1⟩
      · obtain ⟨m1, m2⟩ := make_num hs ht h0
        have HE : Hid (R = resQ (numQ (negS s != negS t) (decV (bareS s)) (decV (bareS t)))) := by show _ = _; rw [HR.out, m1]
        have hz : (t == [48]) = false := by rw [beq_eq_false_iff_ne]; exact h0
        obtain ⟨k1, _, k3⟩ := intE_ok hs
        obtain ⟨k4, _, k6⟩ := intE_ok ht
        have HSS := Lib.hid (fun W => signed_any s W k1.1 (by omega))
        have HST := Lib.hid (fun W => signed_any t W k4.1 (by omega))
        have HL1 := Lib.hid (len_decP k1.1 k3)
        have HL2 := Lib.hid (len_decP k4.1 k6)
        have HM2 := Lib.hid m2
        clear h0 hs ht m1 m2 k1 k3 k4 k6
        generalize decV (bareS s) = x at *
        generalize decV (bareS t) = y at *
        generalize negS s = sn at *
        generalize negS t = tn at *
        have EA : Ext wr (wr.alloc (.cells #[.bool false, .slice none 0 0, .slice none 0 0] 143)) := extA
        have N : Num3 wr.heap.size (wr.alloc (.cells #[.bool false, .slice none 0 0, .slice none 0 0] 143)) (.bool false) (.slice none 0 0) (.slice none 0 0) := ⟨by go_simp, by go_simp, by go_simp, by go_simp, by go_simp, by go_simp⟩
        have hnw : w.heap.size ≤ wr.heap.size := E1.size
        replace E1 := E1.trans EA
        go_wp2_with fail
        generalize hnb : wr.heap.size = nb at N hnw ⊢
        generalize hW1 : wr.alloc (.cells #[.bool false, .slice none 0 0, .slice none 0 0] 143) = W1 at E1 N ⊢
        clear EA hW1 hnb he
        have hnl : nb < W1.heap.size := cell_lt N.c0
        refine (HSS.out _).mono ?_
        rintro e w5 ⟨a5, c5, rfl, oc5, n5, e5⟩
        replace N := N.ext e5
        replace E1 := E1.trans e5
        have HN5 : Hid (∀ p, a5 = some p → p.block ≠ nb) := fun p hp => by have := n5 p hp; omega
        have C5 := Lib.hid (CellsN.set2 (c := nb) (o := 1) (v := .slice a5 (toB 1000000000 x).length c5) (CellsN.set2 (c := nb) (o := 0) (v := .bool sn) oc5 (fun _ => HN5.out)) (fun _ => HN5.out))
        have E2 : Ext w ((w5.setCell ⟨nb, 0, none⟩ (.bool sn)).setCell ⟨nb, 1, none⟩ (.slice a5 (toB 1000000000 x).length c5)) := (E1.set hnw _).set hnw _
        have N2 := (N.set0 (.bool sn)).set1 (.slice a5 (toB 1000000000 x).length c5)
        obtain ⟨x0, x1, x2, g0, g1, g2⟩ := N
        clear oc5 n5 e5 E1 hnl HSS
        go_wp2_with fail
        generalize (w5.setCell ⟨nb, 0, none⟩ (.bool sn)).setCell ⟨nb, 1, none⟩ (.slice a5 (toB 1000000000 x).length c5) = W2 at C5 E2 N2 ⊢
        clear x0 x1 x2 g0 g1 g2
        have hnl : nb < W2.heap.size := cell_lt N2.c0
        refine (HST.out _).mono ?_
        rintro e w6 ⟨a6, c6, rfl, oc6, n6, e6⟩
        replace N2 := N2.ext e6
        replace E2 := E2.trans e6
        have HN6 : Hid (∀ p, a6 = some p → p.block ≠ nb) := fun p hp => by have := n6 p hp; omega
        have C6 := Lib.hid (CellsN.set2 (c := nb) (o := 2) (v := .slice a6 (toB 1000000000 y).length c6) (CellsN.set2 (c := nb) (o := 0) (v := .bool (sn != tn)) oc6 (fun _ => HN6.out)) (fun _ => HN6.out))
        replace C5 := Lib.hid (CellsN.set2 (c := nb) (o := 2) (v := .slice a6 (toB 1000000000 y).length c6) (CellsN.set2 (c := nb) (o := 0) (v := .bool (sn != tn)) (C5.out.ext e6) (fun _ => HN5.out)) (fun _ => HN5.out))
        have E3 : Ext w ((w6.setCell ⟨nb, 0, none⟩ (.bool (sn != tn))).setCell ⟨nb, 2, none⟩ (.slice a6 (toB 1000000000 y).length c6)) := (E2.set hnw _).set hnw _
        have N3 := (N2.set0 (.bool (sn != tn))).set2 (.slice a6 (toB 1000000000 y).length c6)
        obtain ⟨x0, x1, x2, g0, g1, g2⟩ := N2
        clear oc6 n6 e6 E2 hnl HST
        go_wp2_with fail
        have HW := Lib.hid (written_any (sn != tn) x y _ _ ⟨a5, c5, a6, c6, rfl, C5.out, C6.out⟩ HM2.out (HG.out.ext E3) (Nat.le_trans HL1.out (by omega)) (Nat.le_trans HL2.out (by omega)))
        refine HW.out.mono ?_
        rintro e w8 ⟨rfl, e8⟩
        have E8 := E3.trans e8
        clear HW e8 E3 N3 C5 C6 x0 x1 x2 g0 g1 g2
        go_wp2_with fail
        go_ret2
        rw [HE.out]
        exact ⟨rfl, E8⟩
set_option maxHeartbeats 4000000 in
theorem of_any (m n : Int) (w : World) (hG : Glob w) (h1 : -9223372036854775808 ≤ m) (h2 : m ≤ 9223372036854775807) (h3 : -9223372036854775808 ≤ n) (h4 : n ≤ 9223372036854775807) :
    Calls Tryz.prog 112 #[.int .i64 m, .int .i64 n] w (ResP (makeR (itoa m) (itoa n)) w) := by
  have HG := Lib.hid hG
  have HM := Lib.hid (Itoa_any m w h1 h2 hG.tab)
  have HN : Hid (∀ W, Ext w W → Calls Tryz.prog 144 #[.int .i64 n] W fun e w' => e = .returned (txt (itoa n)) ∧ Ext W w') := fun W hW => Itoa_any n W h3 h4 (hG.ext hW).tab
  have l1 := itoa_len h1 h2
  have l2 := itoa_len h3 h4
  have HK : Hid (∀ W, Ext w W → Calls Tryz.prog 143 #[txt (itoa m), txt (itoa n)] W (ResP (makeR (itoa m) (itoa n)) W)) := fun W hW => make_any (itoa m) (itoa n) W (hG.ext hW) (by omega) (by omega)
  clear hG
  go_enter Tryz.func112, Tryz.ntmps112
  go_wp2_with (go_at_call 144; have hh := HM; clear HM; refine hh.out.mono ?_; clear hh; rintro e w5 ⟨rfl, e5⟩)
  go_wp2_with (go_at_call 144; refine (HN.out _ e5).mono ?_; rintro e w6 ⟨rfl, e6⟩)
  have E6 := e5.trans e6
  clear e5 e6
  go_wp2_with (go_at_call 143; refine (HK.out _ E6).mono ?_; rintro e w7 ⟨rfl, e7⟩)
  go_ret2
  exact ⟨rfl, E6.trans e7⟩
end Go.Proofs.YtbpjbhbbkonjlaaGreatDoor
namespace Go.Proofs.YtbpjbhbbkonjlaaGreatDoor
open Go.RowKit
set_option maxHeartbeats 16000000 in
set_option maxRecDepth 100000 in
theorem computed0_any (a b : Txt) (w : World) (hG : Glob w) (ha : a.length ≤ 400) (hb : b.length ≤ 400) :
    Calls Tryz.prog 62 #[.int .i64 0, txt a, txt b] w (ResPost (addS a b) w) := by
  have HG := Lib.hid hG
  have HPA := Lib.hid (fun W (hW : Ext w W) => parsed_any a W (hG.ext hW) ha)
  have HPB := Lib.hid (fun W (hW : Ext w W) => parsed_any b W (hG.ext hW) hb)
  have HRES := Lib.hid (@add_res a b)
  clear hG
  go_enter Tryz.func62, Tryz.ntmps62
  go_wp2_with fail
  refine (HPA.out _ (Ext.refl _)).mono ?_
  rintro e w1 ⟨v1, rfl, ⟨s1, ta, tn, tc, ba, bn, bc, rfl⟩, hn1, hE⟩
  have HN1 := Lib.hid hn1
  clear hn1 HPA
  by_cases ea : fracE a = 0
  rotate_left
  · have HR := Lib.hid (HRES.out.1 ea)
    have hne : (((fracE a : Nat) : Int) != 0) = true := by rw [bne_iff_ne]; omega
    clear HN1 HPB HRES
    generalize fracE a = n at *
    go_wp2_with fail
    go_ret2
    exact ⟨by rw [HR.out]; rfl, extA⟩
  have HNA := Lib.hid (HN1.out ea)
  rw [ea]
  have HEA := Lib.hid ea
  clear ea HN1
  have EV : Ext w1 (w1.alloc (.cells #[.bool s1, .slice ta tn tc, .slice ba bn bc] 143)) := extA
  have X : Num3 w1.heap.size (w1.alloc (.cells #[.bool s1, .slice ta tn tc, .slice ba bn bc] 143)) (.bool s1) (.slice ta tn tc) (.slice ba bn bc) := ⟨by go_simp, by go_simp, by go_simp, by go_simp, by go_simp, by go_simp⟩
  have E := hE.trans EV
  replace HNA := Lib.hid (HNA.out.ext EV)
  clear EV hE
  go_wp2_with fail
  obtain ⟨xb, hxb⟩ : ∃ xb, xb = w1.heap.size := ⟨_, rfl⟩
  rw [← hxb] at X ⊢
  clear hxb
  generalize (w1.alloc (.cells #[.bool s1, .slice ta tn tc, .slice ba bn bc] 143)) = W1 at X E HNA ⊢
  refine (HPB.out _ E).mono ?_
  rintro e w3 ⟨v2, rfl, ⟨s2, ua, un, uc, va, vn, vc, rfl⟩, hn2, hE⟩
  replace X := X.ext hE
  replace E := E.trans hE
  replace HNA := Lib.hid (HNA.out.ext hE)
  have HN2 := Lib.hid hn2
  clear hn2 HPB hE
  by_cases eb : fracE b = 0
  rotate_left
  · have HR := Lib.hid (HRES.out.2.1 HEA.out eb)
    have hne : (((fracE b : Nat) : Int) != 0) = true := by rw [bne_iff_ne]; omega
    clear HN2 HRES HEA
    generalize fracE b = n at *
    go_wp2_with fail
    go_ret2
    exact ⟨by rw [HR.out]; rfl, extA⟩
  have HNB := Lib.hid (HN2.out eb)
  rw [eb]
  have HEB := Lib.hid eb
  clear eb HN2
  have EV : Ext w3 (w3.alloc (.cells #[.bool s2, .slice ua un uc, .slice va vn vc] 143)) := extA
  have Y : Num3 w3.heap.size (w3.alloc (.cells #[.bool s2, .slice ua un uc, .slice va vn vc] 143)) (.bool s2) (.slice ua un uc) (.slice va vn vc) := ⟨by go_simp, by go_simp, by go_simp, by go_simp, by go_simp, by go_simp⟩
  replace X := X.ext EV
  replace E := E.trans EV
  replace HNA := Lib.hid (HNA.out.ext EV)
  replace HNB := Lib.hid (HNB.out.ext EV)
  clear EV
  go_wp2_with fail
  obtain ⟨yb, hyb⟩ : ∃ yb, yb = w3.heap.size := ⟨_, rfl⟩
  rw [← hyb] at Y ⊢
  clear hyb
  generalize (w3.alloc (.cells #[.bool s2, .slice ua un uc, .slice va vn vc] 143)) = W3 at X Y E HNA HNB ⊢
  have hix := op_index0
  have hfi := op_field
  have hxa := (numOf_len HEA.out).1
  have hyb := (numOf_len HEB.out).1
  go_cut [11, 9] (fun n ev wx => ∃ nb z0 z1 zn zc z2 zm zd, n = .pointer (some ⟨nb, 0, none⟩) ∧ ev = .int .i64 0 ∧ Hid (Num3 nb wx (.bool z0) (.slice z1 zn zc) (.slice z2 zm zd)) ∧ Hid (NumV wx (.agg #[.bool z0, .slice z1 zn zc, .slice z2 zm zd]) (sumN (numOf a) (numOf b))) ∧ Ext w wx)
  case first =>
    have hdr : Ext W3 W3.drew := extA
    replace X := X.ext hdr
    replace Y := Y.ext hdr
    replace E := E.trans hdr
    replace HNA := Lib.hid (HNA.out.ext hdr)
    replace HNB := Lib.hid (HNB.out.ext hdr)
    have hS : W3.drew.cell? ⟨xb, 0, none⟩ = some (.bool s1) ∧ W3.drew.cell? ⟨xb, 1, none⟩ = some (.slice ta tn tc) ∧ W3.drew.cell? ⟨xb, 2, none⟩ = some (.slice ba bn bc) ∧ W3.drew.cell? ⟨yb, 0, none⟩ = some (.bool s2) ∧ W3.drew.cell? ⟨yb, 1, none⟩ = some (.slice ua un uc) ∧ W3.drew.cell? ⟨yb, 2, none⟩ = some (.slice va vn vc) := ⟨X.c0, X.c1, X.c2, Y.c0, Y.c1, Y.c2⟩
    refine wp_region_heldE 11 (fun w' => w'.cell? ⟨xb, 0, none⟩ = some (.bool s1) ∧ w'.cell? ⟨xb, 1, none⟩ = some (.slice ta tn tc) ∧ w'.cell? ⟨xb, 2, none⟩ = some (.slice ba bn bc) ∧ w'.cell? ⟨yb, 0, none⟩ = some (.bool s2) ∧ w'.cell? ⟨yb, 1, none⟩ = some (.slice ua un uc) ∧ w'.cell? ⟨yb, 2, none⟩ = some (.slice va vn vc)) (by kernel_rfl) ?_
    clear hdr X Y
    generalize W3.drew = W4 at E HNA HNB hS ⊢
    ((refine eTk 1 ?_); (refine eTk 4 ?_); (refine eTk 5 ?_))
    refine wpAnyE_two (i := 0) (j := 10) (o := ?_) (p := ?_) ?_ ?_ (by kernel_rfl) (fun K hK => ?_) (fun K hK => ?_)
    rotate_left 2
    · simp only [List.getElem?_toArray, List.getElem?_cons_zero]; exact rfl
    · simp only [List.getElem?_toArray, List.getElem?_cons_succ, List.getElem?_cons_zero]; exact rfl
    · go_simp
      go_at_call 83
      refine (operations_any _).mono ?_
      rintro e w5 ⟨rfl, hE⟩
      go_wp2_with fail
      have hS5 : w5.cell? ⟨xb, 0, none⟩ = some (.bool s1) ∧ w5.cell? ⟨xb, 1, none⟩ = some (.slice ta tn tc) ∧ w5.cell? ⟨xb, 2, none⟩ = some (.slice ba bn bc) ∧ w5.cell? ⟨yb, 0, none⟩ = some (.bool s2) ∧ w5.cell? ⟨yb, 1, none⟩ = some (.slice ua un uc) ∧ w5.cell? ⟨yb, 2, none⟩ = some (.slice va vn vc) := ⟨hE.cell hS.1, hE.cell hS.2.1, hE.cell hS.2.2.1, hE.cell hS.2.2.2.1, hE.cell hS.2.2.2.2.1, hE.cell hS.2.2.2.2.2⟩
      refine hK.out _ _ hS5 (fun hHeld => ?_)
      clear hK K hHeld
      (try simp only [Act.put, List.setIfInBounds_toArray, List.set_cons_zero, List.set_cons_succ])
      replace E := E.trans hE
      replace HNA := Lib.hid (HNA.out.ext hE)
      replace HNB := Lib.hid (HNB.out.ext hE)
      clear hE hS
      ((refine eTk 2 ?_); (refine eTk 3 ?_))
      refine wpAnyE_two (i := 6) (j := 10) (o := ?_) (p := ?_) ?_ ?_ (by kernel_rfl) (fun K hK => ?_) (fun K hK => ?_)
      rotate_left 2
      · simp only [List.getElem?_toArray, List.getElem?_cons_succ, List.getElem?_cons_zero]; exact rfl
      · simp only [List.getElem?_toArray, List.getElem?_cons_succ, List.getElem?_cons_zero]; exact rfl
      · go_simp
        go_at_call 102
        refine (op0_any (numOf a) (numOf b) _ _ _ HNA.out HNB.out hxa hyb).mono ?_; rintro e w6 ⟨z, rfl, hz, hzn, hE⟩; obtain ⟨z1, zc, z2, zd, rfl, k1, k2⟩ := hz
        go_wp2_with fail
        have hS6 : w6.cell? ⟨xb, 0, none⟩ = some (.bool s1) ∧ w6.cell? ⟨xb, 1, none⟩ = some (.slice ta tn tc) ∧ w6.cell? ⟨xb, 2, none⟩ = some (.slice ba bn bc) ∧ w6.cell? ⟨yb, 0, none⟩ = some (.bool s2) ∧ w6.cell? ⟨yb, 1, none⟩ = some (.slice ua un uc) ∧ w6.cell? ⟨yb, 2, none⟩ = some (.slice va vn vc) := ⟨hE.cell hS5.1, hE.cell hS5.2.1, hE.cell hS5.2.2.1, hE.cell hS5.2.2.2.1, hE.cell hS5.2.2.2.2.1, hE.cell hS5.2.2.2.2.2⟩
        refine hK.out _ _ hS6 (fun hHeld => ?_)
        clear hK K hHeld hS5
        (try simp only [Act.put, List.setIfInBounds_toArray, List.set_cons_zero, List.set_cons_succ])
        ((refine ePu 7 ?_); (refine ePu 8 ?_); (refine ePu 9 ?_))
        have EA : Ext w6 (w6.alloc (.cells #[.bool false, .slice none 0 0, .slice none 0 0] 143)) := extA
        have N : Num3 w6.heap.size (w6.alloc (.cells #[.bool false, .slice none 0 0, .slice none 0 0] 143)) (.bool false) (.slice none 0 0) (.slice none 0 0) := ⟨by go_simp, by go_simp, by go_simp, by go_simp, by go_simp, by go_simp⟩
        (refine wpAnyE_one (i := 10) (o := ?_) ?_ (by kernel_rfl) (fun K hK => ?_); rotate_left; (focus ((simp only [List.getElem?_toArray, List.getElem?_cons_succ, List.getElem?_cons_zero]; exact rfl))); go_simp; refine hK.out _ _ ?_ (fun hHeld => ?_); rotate_left; clear hK K; (try simp only [Act.put, List.setIfInBounds_toArray, List.set_cons_zero, List.set_cons_succ]))
        rotate_left
        · exact ⟨EA.cell hS6.1, EA.cell hS6.2.1, EA.cell hS6.2.2.1, EA.cell hS6.2.2.2.1, EA.cell hS6.2.2.2.2.1, EA.cell hS6.2.2.2.2.2⟩
        obtain ⟨nb, hnb⟩ : ∃ nb, nb = w6.heap.size := ⟨_, rfl⟩
        rw [← hnb] at N ⊢
        have hnw : w6.heap.size ≤ nb := by omega
        have hww : w.heap.size ≤ nb := by have := (E.trans hE).size; omega
        have E6 := (E.trans hE).trans EA
        have HEA := Lib.hid EA
        clear EA hS6 hHeld hnb E hE
        generalize (w6.alloc (.cells #[.bool false, .slice none 0 0, .slice none 0 0] 143)) = W7 at N HEA E6 ⊢
        have HN := Lib.hid N
        obtain ⟨x0, x1, x2, g0, g1, g2⟩ := N
        (refine wpAnyE_free (i := 11) (o := ?_) ?_ (by kernel_rfl) (by kernel_rfl) (fun K hK => ?_); rotate_left; (focus ((simp only [List.getElem?_toArray, List.getElem?_cons_succ, List.getElem?_cons_zero]; exact rfl))); go_simp; refine hK.out _ _ ?_; clear hK K; (try simp only [Act.put, List.setIfInBounds_toArray, List.set_cons_zero, List.set_cons_succ]))
        ((refine ePu 12 ?_))
        refine wpAnyE_done (by kernel_rfl) ?_ _
        go_wp2_with fail
        go_meet
        refine ⟨nb, _, _, _, _, _, _, _, rfl, rfl, ((HN.out.set0 _).set1 _).set2 _, ?_, extA⟩
        exact NumV.ext ⟨z1, zc, z2, zd, rfl, k1, k2⟩ (((HEA.out.set hnw _).set hnw _).set hnw _)
      · go_simp
        have EA : Ext w5 (w5.alloc (.cells #[.bool false, .slice none 0 0, .slice none 0 0] 143)) := extA
        have N : Num3 w5.heap.size (w5.alloc (.cells #[.bool false, .slice none 0 0, .slice none 0 0] 143)) (.bool false) (.slice none 0 0) (.slice none 0 0) := ⟨by go_simp, by go_simp, by go_simp, by go_simp, by go_simp, by go_simp⟩
        have hSA : (w5.alloc (.cells #[.bool false, .slice none 0 0, .slice none 0 0] 143)).cell? ⟨xb, 0, none⟩ = some (.bool s1) ∧ (w5.alloc (.cells #[.bool false, .slice none 0 0, .slice none 0 0] 143)).cell? ⟨xb, 1, none⟩ = some (.slice ta tn tc) ∧ (w5.alloc (.cells #[.bool false, .slice none 0 0, .slice none 0 0] 143)).cell? ⟨xb, 2, none⟩ = some (.slice ba bn bc) ∧ (w5.alloc (.cells #[.bool false, .slice none 0 0, .slice none 0 0] 143)).cell? ⟨yb, 0, none⟩ = some (.bool s2) ∧ (w5.alloc (.cells #[.bool false, .slice none 0 0, .slice none 0 0] 143)).cell? ⟨yb, 1, none⟩ = some (.slice ua un uc) ∧ (w5.alloc (.cells #[.bool false, .slice none 0 0, .slice none 0 0] 143)).cell? ⟨yb, 2, none⟩ = some (.slice va vn vc) := ⟨EA.cell hS5.1, EA.cell hS5.2.1, EA.cell hS5.2.2.1, EA.cell hS5.2.2.2.1, EA.cell hS5.2.2.2.2.1, EA.cell hS5.2.2.2.2.2⟩
        refine hK.out _ _ hSA (fun hHeld => ?_)
        clear hK K hHeld hS5
        (try simp only [Act.put, List.setIfInBounds_toArray, List.set_cons_zero, List.set_cons_succ])
        obtain ⟨nb, hnb⟩ : ∃ nb, nb = w5.heap.size := ⟨_, rfl⟩
        rw [← hnb] at N ⊢
        have hww : w.heap.size ≤ nb := by have := E.size; omega
        replace E := E.trans EA
        replace HNA := Lib.hid (HNA.out.ext EA)
        replace HNB := Lib.hid (HNB.out.ext EA)
        clear EA hnb
        generalize (w5.alloc (.cells #[.bool false, .slice none 0 0, .slice none 0 0] 143)) = w5 at N hSA E HNA HNB ⊢
        (refine wpAnyE_one (i := 6) (o := ?_) ?_ (by kernel_rfl) (fun K hK => ?_); rotate_left; (focus ((simp only [List.getElem?_toArray, List.getElem?_cons_succ, List.getElem?_cons_zero]; exact rfl))); go_simp; go_at_call 102; refine (op0_any (numOf a) (numOf b) _ _ _ HNA.out HNB.out hxa hyb).mono ?_; rintro e w6 ⟨z, rfl, hz, hzn, hE⟩; obtain ⟨z1, zc, z2, zd, rfl, k1, k2⟩ := hz; go_wp2_with fail; refine hK.out _ _ ?_ (fun hHeld => ?_); rotate_left; clear hK K; (try simp only [Act.put, List.setIfInBounds_toArray, List.set_cons_zero, List.set_cons_succ]))
        rotate_left
        · exact ⟨hE.cell hSA.1, hE.cell hSA.2.1, hE.cell hSA.2.2.1, hE.cell hSA.2.2.2.1, hE.cell hSA.2.2.2.2.1, hE.cell hSA.2.2.2.2.2⟩
        have N6 := N.ext hE
        have hnl : nb < w5.heap.size := cell_lt N.c0
        have E6 := E.trans hE
        clear hSA N E hE
        ((refine ePu 7 ?_); (refine ePu 8 ?_); (refine ePu 9 ?_))
        clear hHeld
        have HN := Lib.hid N6
        obtain ⟨x0, x1, x2, g0, g1, g2⟩ := N6
        (refine wpAnyE_free (i := 11) (o := ?_) ?_ (by kernel_rfl) (by kernel_rfl) (fun K hK => ?_); rotate_left; (focus ((simp only [List.getElem?_toArray, List.getElem?_cons_succ, List.getElem?_cons_zero]; exact rfl))); go_simp; refine hK.out _ _ ?_; clear hK K; (try simp only [Act.put, List.setIfInBounds_toArray, List.set_cons_zero, List.set_cons_succ]))
        ((refine ePu 12 ?_))
        refine wpAnyE_done (by kernel_rfl) ?_ _
        go_wp2_with fail
        go_meet
        refine ⟨nb, _, _, _, _, _, _, _, rfl, rfl, ((HN.out.set0 _).set1 _).set2 _, ?_, extA⟩
        exact NumV.set (NumV.set (NumV.set ⟨z1, zc, z2, zd, rfl, k1, k2⟩ hzn hnl) hzn hnl) hzn hnl
    · go_simp
      have EA : Ext W4 (W4.alloc (.cells #[.bool false, .slice none 0 0, .slice none 0 0] 143)) := extA
      have N : Num3 W4.heap.size (W4.alloc (.cells #[.bool false, .slice none 0 0, .slice none 0 0] 143)) (.bool false) (.slice none 0 0) (.slice none 0 0) := ⟨by go_simp, by go_simp, by go_simp, by go_simp, by go_simp, by go_simp⟩
      have hSA : (W4.alloc (.cells #[.bool false, .slice none 0 0, .slice none 0 0] 143)).cell? ⟨xb, 0, none⟩ = some (.bool s1) ∧ (W4.alloc (.cells #[.bool false, .slice none 0 0, .slice none 0 0] 143)).cell? ⟨xb, 1, none⟩ = some (.slice ta tn tc) ∧ (W4.alloc (.cells #[.bool false, .slice none 0 0, .slice none 0 0] 143)).cell? ⟨xb, 2, none⟩ = some (.slice ba bn bc) ∧ (W4.alloc (.cells #[.bool false, .slice none 0 0, .slice none 0 0] 143)).cell? ⟨yb, 0, none⟩ = some (.bool s2) ∧ (W4.alloc (.cells #[.bool false, .slice none 0 0, .slice none 0 0] 143)).cell? ⟨yb, 1, none⟩ = some (.slice ua un uc) ∧ (W4.alloc (.cells #[.bool false, .slice none 0 0, .slice none 0 0] 143)).cell? ⟨yb, 2, none⟩ = some (.slice va vn vc) := ⟨EA.cell hS.1, EA.cell hS.2.1, EA.cell hS.2.2.1, EA.cell hS.2.2.2.1, EA.cell hS.2.2.2.2.1, EA.cell hS.2.2.2.2.2⟩
      refine hK.out _ _ hSA (fun hHeld => ?_)
      clear hK K hHeld hS
      (try simp only [Act.put, List.setIfInBounds_toArray, List.set_cons_zero, List.set_cons_succ])
      obtain ⟨nb, hnb⟩ : ∃ nb, nb = W4.heap.size := ⟨_, rfl⟩
      rw [← hnb] at N ⊢
      have hww : w.heap.size ≤ nb := by have := E.size; omega
      replace E := E.trans EA
      replace HNA := Lib.hid (HNA.out.ext EA)
      replace HNB := Lib.hid (HNB.out.ext EA)
      clear EA hnb
      generalize (W4.alloc (.cells #[.bool false, .slice none 0 0, .slice none 0 0] 143)) = W5 at N hSA E HNA HNB ⊢
      (refine wpAnyE_one (i := 0) (o := ?_) ?_ (by kernel_rfl) (fun K hK => ?_); rotate_left; (focus ((simp only [List.getElem?_toArray, List.getElem?_cons_zero]; exact rfl))); go_simp; go_at_call 83; refine (operations_any _).mono ?_; rintro e w5 ⟨rfl, hE⟩; go_wp2_with fail; refine hK.out _ _ ?_ (fun hHeld => ?_); rotate_left; clear hK K; (try simp only [Act.put, List.setIfInBounds_toArray, List.set_cons_zero, List.set_cons_succ]))
      rotate_left
      · exact ⟨hE.cell hSA.1, hE.cell hSA.2.1, hE.cell hSA.2.2.1, hE.cell hSA.2.2.2.1, hE.cell hSA.2.2.2.2.1, hE.cell hSA.2.2.2.2.2⟩
      replace hSA : w5.cell? ⟨xb, 0, none⟩ = some (.bool s1) ∧ w5.cell? ⟨xb, 1, none⟩ = some (.slice ta tn tc) ∧ w5.cell? ⟨xb, 2, none⟩ = some (.slice ba bn bc) ∧ w5.cell? ⟨yb, 0, none⟩ = some (.bool s2) ∧ w5.cell? ⟨yb, 1, none⟩ = some (.slice ua un uc) ∧ w5.cell? ⟨yb, 2, none⟩ = some (.slice va vn vc) := ⟨hE.cell hSA.1, hE.cell hSA.2.1, hE.cell hSA.2.2.1, hE.cell hSA.2.2.2.1, hE.cell hSA.2.2.2.2.1, hE.cell hSA.2.2.2.2.2⟩
      replace N := N.ext hE
      replace E := E.trans hE
      replace HNA := Lib.hid (HNA.out.ext hE)
      replace HNB := Lib.hid (HNB.out.ext hE)
      clear hE hHeld
      ((refine eTk 2 ?_); (refine eTk 3 ?_))
      (refine wpAnyE_one (i := 6) (o := ?_) ?_ (by kernel_rfl) (fun K hK => ?_); rotate_left; (focus ((simp only [List.getElem?_toArray, List.getElem?_cons_succ, List.getElem?_cons_zero]; exact rfl))); go_simp; go_at_call 102; refine (op0_any (numOf a) (numOf b) _ _ _ HNA.out HNB.out hxa hyb).mono ?_; rintro e w6 ⟨z, rfl, hz, hzn, hE⟩; obtain ⟨z1, zc, z2, zd, rfl, k1, k2⟩ := hz; go_wp2_with fail; refine hK.out _ _ ?_ (fun hHeld => ?_); rotate_left; clear hK K; (try simp only [Act.put, List.setIfInBounds_toArray, List.set_cons_zero, List.set_cons_succ]))
      rotate_left
      · exact ⟨hE.cell hSA.1, hE.cell hSA.2.1, hE.cell hSA.2.2.1, hE.cell hSA.2.2.2.1, hE.cell hSA.2.2.2.2.1, hE.cell hSA.2.2.2.2.2⟩
      have N6 := N.ext hE
      have hnl : nb < w5.heap.size := cell_lt N.c0
      have E6 := E.trans hE
      clear hSA N E hE
      ((refine ePu 7 ?_); (refine ePu 8 ?_); (refine ePu 9 ?_))
      clear hHeld
      have HN := Lib.hid N6
      obtain ⟨x0, x1, x2, g0, g1, g2⟩ := N6
      (refine wpAnyE_free (i := 11) (o := ?_) ?_ (by kernel_rfl) (by kernel_rfl) (fun K hK => ?_); rotate_left; (focus ((simp only [List.getElem?_toArray, List.getElem?_cons_succ, List.getElem?_cons_zero]; exact rfl))); go_simp; refine hK.out _ _ ?_; clear hK K; (try simp only [Act.put, List.setIfInBounds_toArray, List.set_cons_zero, List.set_cons_succ]))
      ((refine ePu 12 ?_))
      refine wpAnyE_done (by kernel_rfl) ?_ _
      go_wp2_with fail
      go_meet
      refine ⟨nb, _, _, _, _, _, _, _, rfl, rfl, ((HN.out.set0 _).set1 _).set2 _, ?_, extA⟩
      exact NumV.set (NumV.set (NumV.set ⟨z1, zc, z2, zd, rfl, k1, k2⟩ hzn hnl) hzn hnl) hzn hnl
  case rest =>
    obtain ⟨nb, z0, z1, zn, zc, z2, zm, zd, rfl, rfl, N, HZ, E⟩ := hcut
    have ka := (numOf_len HEA.out).2
    have kb := (numOf_len HEB.out).2
    have hval : valQ (sumN (numOf a) (numOf b)) = fracQ a + fracQ b := (sumN_val ka kb).1.trans (by rw [numOf_val, numOf_val])
    have hden : (sumN (numOf a) (numOf b)).2.2 ≠ 0 := (sumN_val ka kb).2
    have hlen := sumN_len hxa hyb
    have HRR := Lib.hid (HRES.out.2.2 HEA.out HEB.out)
    generalize sumN (numOf a) (numOf b) = SN at *
    have HW := Lib.hid (written_any SN.1 SN.2.1 SN.2.2 _ _ HZ.out hden (HG.out.ext E) hlen.1 hlen.2)
    have HV := Lib.hid (show numQ SN.1 SN.2.1 SN.2.2 = fracQ a + fracQ b from hval)
    obtain ⟨x0, x1, x2, _, _, _⟩ := N.out
    clear X Y HNA HNB HRES HZ N hval hden hlen ka kb hxa hyb
    go_wp2_with (go_at_call 84; refine HW.out.mono ?_; rintro e w9 ⟨rfl, hE⟩)
    go_ret2
    exact ⟨by rw [HRR.out, HV.out]; rfl, E.trans hE⟩
end Go.Proofs.YtbpjbhbbkonjlaaGreatDoor
namespace Go.Proofs.YtbpjbhbbkonjlaaGreatDoor
open Go.RowKit
end Go.Proofs.YtbpjbhbbkonjlaaGreatDoor
