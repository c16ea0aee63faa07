/- Steps of the proof: FSumN, FNumR, FWrit, FMadR, FMakP, FLongR, FOfR, FOps, FOpT, FCptP, FMak, FCpt0, FCpt1, FCpt2, FCpt3, FApi, FFloor, FCeilP, FAwk, FRing, FRefS, FSumR, FOpsR, ESpec, ELaw, ELaw2, ELaw3, ELaw4, ELaw5, EOrdP, FSumsP, EFour. No conditions. -/
import Derived.Laws.EntriesVeiled
import Derived.Test.YtdejgaiocjfhjaaGreatDoorZSB1
import Derived.Test.YtdejgaiocjfhjaaGreatDoorZSB2
import Derived.Test.YtdejgaiocjfhjaaGreatDoorZSB3
import Derived.Test.YtdejgaiocjfhjaaGreatDoorZSB4
namespace Go.Proofs.YtdejgaiocjfhjaaGreatDoor
open Go.RowKit
set_option maxHeartbeats 2000000 in
theorem opposite_any (x : Num) (v : Value) (w : World) (hv : NumV w v x) :
    Calls Tryz.prog 124 #[v] w fun e w' => ∃ u, e = .returned u ∧ NumV w' u (negN x) ∧ Ext w w' := by
  obtain ⟨ta, tc, ba, bc, rfl, h1, h2⟩ := hv
  obtain ⟨s, t, d⟩ := x
  have H1 := Lib.hid h1
  have H2 := Lib.hid h2
  dsimp only at H1 H2 ⊢
  clear h1 h2
  have HN : Hid (∀ W, Ext w W → NumV W (.agg #[.bool (!s), .slice ta (toB 1000000000 t).length tc, .slice ba (toB 1000000000 d).length bc]) (negN (s, t, d))) := fun W hW => ⟨ta, tc, ba, bc, rfl, H1.out.ext hW, H2.out.ext hW⟩
  generalize toB 1000000000 t = lt at *
  generalize toB 1000000000 d = ld at *
  go_enter Tryz.func124, Tryz.ntmps124
  go_wp2
  refine bodyPost_ret (v := .agg #[.bool (!s), .slice ta lt.length tc, .slice ba ld.length bc]) (by rw [results_cell1 rfl]; go_simp) rfl ?_
  have key : ∀ W, Ext w W → ∃ u, Ending.returned (.agg #[.bool (!s), .slice ta lt.length tc, .slice ba ld.length bc]) = .returned u ∧ NumV W u (negN (s, t, d)) ∧ Ext w W := fun W E => ⟨_, rfl, HN.out W E, E⟩
  exact key _ extA
def signN (x : Num) : Int := if x.2.1 = 0 then 0 else if x.1 then -1 else 1
set_option maxHeartbeats 2000000 in
theorem sign_any (x : Num) (v : Value) (w : World) (hv : NumV w v x) :
    Calls Tryz.prog 94 #[v] w fun e w' => e = .returned (.int .i64 (signN x)) ∧ Ext w w' := by
  obtain ⟨ta, tc, ba, bc, rfl, h1, h2⟩ := hv
  obtain ⟨s, t, d⟩ := x
  clear h1 h2
  dsimp only
  by_cases h0 : t = 0
  · have hl := len_zero h0
    have HS : Hid (signN (s, t, d) = 0) := by show _ = _; unfold signN; rw [if_pos h0]
    generalize (toB 1000000000 t).length = lt at *
    subst hl
    clear h0
    go_enter Tryz.func94, Tryz.ntmps94
    go_wp2
    go_ret
    exact ⟨ret_int HS.out.symm, extA⟩
  · have hl := len_pos h0
    have hl0 : (((toB 1000000000 t).length : Int) == 0) = false := by rw [beq_eq_false_iff_ne]; omega
    generalize (toB 1000000000 t).length = lt at *
    cases s
    · have HS : Hid (signN (false, t, d) = 1) := by show _ = _; unfold signN; rw [if_neg h0]; rfl
      clear h0
      go_enter Tryz.func94, Tryz.ntmps94
      go_wp2
      go_ret
      exact ⟨ret_int HS.out.symm, extA⟩
    · have HS : Hid (signN (true, t, d) = -1) := by show _ = _; unfold signN; rw [if_neg h0]; rfl
      clear h0
      go_enter Tryz.func94, Tryz.ntmps94
      go_wp2
      go_ret
      exact ⟨ret_int HS.out.symm, extA⟩
theorem CellsN.set2 {k : IntKind} {A : World} {a : Option Addr} {l : List Nat} (h : CellsN k A a l) {c o : Nat} {v : Value} (hn : 0 < l.length → ∀ p, a = some p → p.block ≠ c) : CellsN k (A.setCell ⟨c, o, none⟩ v) a l := fun i hi => by
  obtain ⟨b, off, h1, h2⟩ := h i hi
  refine ⟨b, off, h1, ?_⟩
  have := hn (by omega) _ h1
  rw [World.cell?_setCell_other _ _ _ _ (fun h => by simp only [Addr.mk.injEq] at h; exact this h.1.symm)]
  exact h2
theorem CellsN.lt {k : IntKind} {A : World} {a : Option Addr} {l : List Nat} (h : CellsN k A a l) (hl : 0 < l.length) : ∀ p, a = some p → p.block < A.heap.size := fun p hp => by
  obtain ⟨b, off, h1, h2⟩ := h 0 hl
  rw [hp] at h1
  cases h1
  exact cell_lt h2
theorem mul_len {x y m n : Nat} (hx : (toB 1000000000 x).length ≤ m) (hy : (toB 1000000000 y).length ≤ n) : (toB 1000000000 (x * y)).length ≤ m + n := by
  have lt : ∀ {z k : Nat}, (toB 1000000000 z).length ≤ k → z < 1000000000 ^ k := fun {z k} h => by
    have h1 := valB_lt (okB_toB (B := 1000000000) (by omega) z)
    rw [valB_toB (by omega)] at h1
    exact Nat.lt_of_lt_of_le h1 (Nat.pow_le_pow_right (by omega) h)
  refine toB_len (by omega) _ ?_
  rw [Nat.pow_add]
  exact Nat.mul_lt_mul'' (lt hx) (lt hy)
def NewN (n : Nat) (v : Value) : Prop := ∀ (s : Bool) ta (tn tc : Nat) ba (bn bc : Nat), v = .agg #[.bool s, .slice ta tn tc, .slice ba bn bc] → (0 < tn → ∀ p, ta = some p → n ≤ p.block) ∧ (0 < bn → ∀ p, ba = some p → n ≤ p.block)
theorem newN_mk {n : Nat} {s : Bool} {ta : Option Addr} {tn tc : Nat} {ba : Option Addr} {bn bc : Nat} (h1 : 0 < tn → ∀ p, ta = some p → n ≤ p.block) (h2 : 0 < bn → ∀ p, ba = some p → n ≤ p.block) : NewN n (.agg #[.bool s, .slice ta tn tc, .slice ba bn bc]) := by
  intro s' ta' tn' tc' ba' bn' bc' e
  cases e
  exact ⟨h1, h2⟩
theorem NumV.set {w : World} {v : Value} {x : Num} (h : NumV w v x) {n c o : Nat} {u : Value} (hn : NewN n v) (hc : c < n) : NumV (w.setCell ⟨c, o, none⟩ u) v x := by
  obtain ⟨ta, tc, ba, bc, rfl, h1, h2⟩ := h
  obtain ⟨k1, k2⟩ := hn _ _ _ _ _ _ _ rfl
  exact ⟨ta, tc, ba, bc, rfl, h1.set2 (fun hl p hp => by have := k1 hl p hp; omega), h2.set2 (fun hl p hp => by have := k2 hl p hp; omega)⟩
def LenN (k : Nat) (x : Num) : Prop := (toB 1000000000 x.2.1).length ≤ k ∧ (toB 1000000000 x.2.2).length ≤ k
set_option maxHeartbeats 8000000 in
set_option maxRecDepth 100000 in
theorem sum_any (x y : Num) (v u : Value) (w : World) (hv : NumV w v x) (hu : NumV w u y) (hx : LenN 40 x) (hy : LenN 40 y) :
    Calls Tryz.prog 123 #[v, u] w fun e w' => ∃ z, e = .returned z ∧ NumV w' z (sumN x y) ∧ NewN w.heap.size z ∧ Ext w w' := by
  obtain ⟨ta, tc, ba, bc, rfl, h1, h2⟩ := hv
  obtain ⟨ua, uc, va, vc, rfl, h3, h4⟩ := hu
  obtain ⟨s, t, d⟩ := x
  obtain ⟨r, p, q⟩ := y
  obtain ⟨l1, l2⟩ := hx
  obtain ⟨l3, l4⟩ := hy
  dsimp only at h1 h2 h3 h4 l1 l2 l3 l4 ⊢
  have m1 := mul_len l1 l4
  have m2 := mul_len l3 l2
  have m3 := mul_len l2 l4
  have HT1 := Lib.hid (fun W (hW : Ext w W) => (times_any t q _ _ ta va tc vc W rfl rfl (by omega) (by omega) (h1.ext hW) (h4.ext hW)).mono fun _ _ h => h.newB)
  have HT2 := Lib.hid (fun W (hW : Ext w W) => (times_any p d _ _ ua ba uc bc W rfl rfl (by omega) (by omega) (h3.ext hW) (h2.ext hW)).mono fun _ _ h => h.newB)
  have HT3 := Lib.hid (fun W (hW : Ext w W) => (times_any d q _ _ ba va bc vc W rfl rfl (by omega) (by omega) (h2.ext hW) (h4.ext hW)).mono fun _ _ h => h.newB)
  have HSN := Lib.hid (show sumN (s, t, d) (r, p, q) = if s = r then (s, t * q + p * d, d * q) else if p * d ≤ t * q then (s, t * q - p * d, d * q) else (r, p * d - t * q, d * q) from rfl)
  generalize sumN (s, t, d) (r, p, q) = SN at *
  generalize t * q = X1 at *
  generalize p * d = X2 at *
  generalize d * q = X3 at *
  clear h1 h2 h3 h4
  have E : Ext w (((w.alloc (.cells #[.bool s, (.slice ta (toB 1000000000 t).length tc), (.slice ba (toB 1000000000 d).length bc)] 116)).alloc (.cells #[.bool r, (.slice ua (toB 1000000000 p).length uc), (.slice va (toB 1000000000 q).length vc)] 116)).alloc (.cells #[.bool false, .slice none 0 0, .slice none 0 0] 116)) := extA
  have A : Num3 w.heap.size (((w.alloc (.cells #[.bool s, (.slice ta (toB 1000000000 t).length tc), (.slice ba (toB 1000000000 d).length bc)] 116)).alloc (.cells #[.bool r, (.slice ua (toB 1000000000 p).length uc), (.slice va (toB 1000000000 q).length vc)] 116)).alloc (.cells #[.bool false, .slice none 0 0, .slice none 0 0] 116)) (.bool s) (.slice ta (toB 1000000000 t).length tc) (.slice ba (toB 1000000000 d).length bc) := ⟨by go_simp, by go_simp, by go_simp, by go_simp, by go_simp, by go_simp⟩
  have B : Num3 (w.heap.size + 1) (((w.alloc (.cells #[.bool s, (.slice ta (toB 1000000000 t).length tc), (.slice ba (toB 1000000000 d).length bc)] 116)).alloc (.cells #[.bool r, (.slice ua (toB 1000000000 p).length uc), (.slice va (toB 1000000000 q).length vc)] 116)).alloc (.cells #[.bool false, .slice none 0 0, .slice none 0 0] 116)) (.bool r) (.slice ua (toB 1000000000 p).length uc) (.slice va (toB 1000000000 q).length vc) := ⟨by go_simp, by go_simp, by go_simp, by go_simp, by go_simp, by go_simp⟩
  have R : Num3 (w.heap.size + 1 + 1) (((w.alloc (.cells #[.bool s, (.slice ta (toB 1000000000 t).length tc), (.slice ba (toB 1000000000 d).length bc)] 116)).alloc (.cells #[.bool r, (.slice ua (toB 1000000000 p).length uc), (.slice va (toB 1000000000 q).length vc)] 116)).alloc (.cells #[.bool false, .slice none 0 0, .slice none 0 0] 116)) (.bool false) (.slice none 0 0) (.slice none 0 0) := ⟨by go_simp, by go_simp, by go_simp, by go_simp, by go_simp, by go_simp⟩
  go_enter Tryz.func123, Tryz.ntmps123
  go_wp2_with fail
  generalize (((w.alloc (.cells #[.bool s, (.slice ta (toB 1000000000 t).length tc), (.slice ba (toB 1000000000 d).length bc)] 116)).alloc (.cells #[.bool r, (.slice ua (toB 1000000000 p).length uc), (.slice va (toB 1000000000 q).length vc)] 116)).alloc (.cells #[.bool false, .slice none 0 0, .slice none 0 0] 116)) = W at E A B R ⊢
  have hdr : Ext W W.drew := extA
  replace A := A.ext hdr
  replace B := B.ext hdr
  replace R := R.ext hdr
  replace E := E.trans hdr
  have hS : W.drew.cell? ⟨w.heap.size, 1, none⟩ = some (.slice ta (toB 1000000000 t).length tc) ∧ W.drew.cell? ⟨w.heap.size + 1, 2, none⟩ = some (.slice va (toB 1000000000 q).length vc) ∧ W.drew.cell? ⟨w.heap.size + 1, 1, none⟩ = some (.slice ua (toB 1000000000 p).length uc) ∧ W.drew.cell? ⟨w.heap.size, 2, none⟩ = some (.slice ba (toB 1000000000 d).length bc) := ⟨A.c1, B.c2, B.c1, A.c2⟩
  refine wp_region_heldE 99 (fun w' => w'.cell? ⟨w.heap.size, 1, none⟩ = some (.slice ta (toB 1000000000 t).length tc) ∧ w'.cell? ⟨w.heap.size + 1, 2, none⟩ = some (.slice va (toB 1000000000 q).length vc) ∧ w'.cell? ⟨w.heap.size + 1, 1, none⟩ = some (.slice ua (toB 1000000000 p).length uc) ∧ w'.cell? ⟨w.heap.size, 2, none⟩ = some (.slice ba (toB 1000000000 d).length bc)) (by kernel_rfl) ?_
  clear hdr
  generalize W.drew = W at E A B R hS ⊢
  ((refine eTk 0 ?_); (refine eTk 1 ?_); (refine eTk 2 ?_); (refine eTk 3 ?_); (refine eTk 5 ?_); (refine eTk 6 ?_); (refine eTk 7 ?_); (refine eTk 8 ?_))
  (refine wpAnyE_one (i := 4) (o := ?_) ?_ (by kernel_rfl) (fun K hK => ?_); rotate_left; (focus ((simp only [List.getElem?_toArray, List.getElem?_cons_succ, List.getElem?_cons_zero]; exact rfl))); go_simp; go_at_call 150; refine (HT1.out _ E).mono ?_; rintro e w1 ⟨xa, xc, rfl, hx, hxn, hE⟩; go_wp2_with fail; refine hK.out _ _ ?_ (fun hHeld => ?_); rotate_left; clear hK K; (try simp only [Act.put, List.setIfInBounds_toArray, List.set_cons_zero, List.set_cons_succ]))
  rotate_left
  · exact ⟨hE.cell hS.1, hE.cell hS.2.1, hE.cell hS.2.2.1, hE.cell hS.2.2.2⟩
  have hS1 := And.intro (hE.cell hS.1) (And.intro (hE.cell hS.2.1) (And.intro (hE.cell hS.2.2.1) (hE.cell hS.2.2.2)))
  replace A := A.ext hE
  replace B := B.ext hE
  replace R := R.ext hE
  replace E := E.trans hE
  have HX := Lib.hid hx
  clear hS hE hx hxn hHeld
  (refine wpAnyE_one (i := 9) (o := ?_) ?_ (by kernel_rfl) (fun K hK => ?_); rotate_left; (focus ((simp only [List.getElem?_toArray, List.getElem?_cons_succ, List.getElem?_cons_zero]; exact rfl))); go_simp; go_at_call 150; refine (HT2.out _ E).mono ?_; rintro e w2 ⟨ya, yc, rfl, hy, hyn, hE⟩; go_wp2_with fail; refine hK.out _ _ ?_ (fun hHeld => ?_); rotate_left; clear hK K; (try simp only [Act.put, List.setIfInBounds_toArray, List.set_cons_zero, List.set_cons_succ]))
  rotate_left
  · exact ⟨hE.cell hS1.1, hE.cell hS1.2.1, hE.cell hS1.2.2.1, hE.cell hS1.2.2.2⟩
  replace A := A.ext hE
  replace B := B.ext hE
  replace R := R.ext hE
  replace E := E.trans hE
  replace HX := Lib.hid (HX.out.ext hE)
  have HY := Lib.hid hy
  clear hS1 hE hy hyn
  ((refine eTk 10 ?_); (refine eTk 11 ?_))
  refine wpAnyE_done (by kernel_rfl) ?_ _
  clear hHeld
  go_wp2_with fail
  go_cut [7] (fun n wx => ∃ nb ma mc, n = .pointer (some ⟨nb, 0, none⟩) ∧ w.heap.size + 1 + 1 < nb ∧ Hid (Num3 nb wx (.bool s) (.slice none 0 0) (.slice ma (toB 1000000000 X3).length mc)) ∧ Hid (CellsN .u64 wx ma (toB 1000000000 X3)) ∧ Hid (0 < (toB 1000000000 X3).length → ∀ z, ma = some z → z.block ≠ nb ∧ w.heap.size + 1 + 1 < z.block) ∧ Ext w2 wx)
  case first =>
    have hdr : Ext w2 w2.drew := extA
    have hA := A.ext hdr
    have hB := B.ext hdr
    have hzw : w.heap.size + 1 + 1 < w2.heap.size := cell_lt R.c0
    have hS : w2.drew.cell? ⟨w.heap.size, 0, none⟩ = some (.bool s) ∧ w2.drew.cell? ⟨w.heap.size, 2, none⟩ = some (.slice ba (toB 1000000000 d).length bc) ∧ w2.drew.cell? ⟨w.heap.size + 1, 2, none⟩ = some (.slice va (toB 1000000000 q).length vc) := ⟨hA.c0, hA.c2, hB.c2⟩
    clear A B R hA hB HX HY
    refine wp_region_heldE 9 (fun w' => w'.cell? ⟨w.heap.size, 0, none⟩ = some (.bool s) ∧ w'.cell? ⟨w.heap.size, 2, none⟩ = some (.slice ba (toB 1000000000 d).length bc) ∧ w'.cell? ⟨w.heap.size + 1, 2, none⟩ = some (.slice va (toB 1000000000 q).length vc)) (by kernel_rfl) ?_
    have HE0 := Lib.hid (E.trans hdr)
    have HDR := Lib.hid hdr
    have hzd : w2.drew.heap.size = w2.heap.size := rfl
    clear hdr E
    generalize w2.drew = W3 at HE0 HDR hS hzd ⊢
    ((refine eTk 0 ?_); (refine eTk 1 ?_); (refine eTk 2 ?_); (refine eTk 3 ?_); (refine eTk 4 ?_); (refine eTk 5 ?_))
    refine wpAnyE_two (i := 6) (j := 8) (o := ?_) (p := ?_) ?_ ?_ (by kernel_rfl) (fun K hK => ?_) (fun K hK => ?_)
    rotate_left 2
    · simp only [List.getElem?_toArray, List.getElem?_cons_succ, List.getElem?_cons_zero]; exact rfl
    · simp only [List.getElem?_toArray, List.getElem?_cons_succ, List.getElem?_cons_zero]; exact rfl
    · go_simp
      go_at_call 150
      refine (HT3.out _ HE0.out).mono ?_
      rintro e w5 ⟨ma, mc, rfl, hm, hmn, hE⟩
      go_wp2_with fail
      have hS5 := And.intro (hE.cell hS.1) (And.intro (hE.cell hS.2.1) (hE.cell hS.2.2))
      refine hK.out _ _ hS5 (fun hHeld => ?_)
      clear hK K
      (try simp only [Act.put, List.setIfInBounds_toArray, List.set_cons_zero, List.set_cons_succ])
      (refine eTk 7 ?_)
      have EA : Ext w5 (w5.alloc (.cells #[.bool false, .slice none 0 0, .slice none 0 0] 116)) := extA
      have N : Num3 w5.heap.size (w5.alloc (.cells #[.bool false, .slice none 0 0, .slice none 0 0] 116)) (.bool false) (.slice none 0 0) (.slice none 0 0) := ⟨by go_simp, by go_simp, by go_simp, by go_simp, by go_simp, by go_simp⟩
      (refine wpAnyE_one (i := 8) (o := ?_) ?_ (by kernel_rfl) (fun K hK => ?_); rotate_left; (focus ((simp only [List.getElem?_toArray, List.getElem?_cons_succ, List.getElem?_cons_zero]; exact rfl))); go_simp; refine hK.out _ _ ?_ (fun hHeld => ?_); rotate_left; clear hK K; (try simp only [Act.put, List.setIfInBounds_toArray, List.set_cons_zero, List.set_cons_succ]))
      rotate_left
      · exact ⟨EA.cell hS5.1, EA.cell hS5.2.1, EA.cell hS5.2.2⟩
      obtain ⟨nb, hnb⟩ : ∃ nb, nb = w5.heap.size := ⟨_, rfl⟩
      have hz5 := hE.size
      have HMN : Hid (0 < (toB 1000000000 X3).length → ∀ z, ma = some z → z.block ≠ nb ∧ w.heap.size + 1 + 1 < z.block) := fun hl z hz => by
        have h1 := hmn z hz
        have h2 := hm.lt hl z hz
        omega
      have HMX := Lib.hid hm
      have HEA := Lib.hid EA
      have hnz : w.heap.size + 1 + 1 < nb := by omega
      have hnw : w5.heap.size ≤ nb := by omega
      have HHE := Lib.hid hE
      rw [← hnb] at N ⊢
      clear hE EA hm hmn hHeld hS5 hS hz5 hnb
      generalize (w5.alloc (.cells #[.bool false, .slice none 0 0, .slice none 0 0] 116)) = W6 at N HEA ⊢
      have HN := Lib.hid N
      obtain ⟨x0, x1, x2, g0, g1, g2⟩ := N
      (refine wpAnyE_free (i := 9) (o := ?_) ?_ (by kernel_rfl) (by kernel_rfl) (fun K hK => ?_); rotate_left; (focus ((simp only [List.getElem?_toArray, List.getElem?_cons_succ, List.getElem?_cons_zero]; exact rfl))); go_simp; refine hK.out _ _ ?_; clear hK K; (try simp only [Act.put, List.setIfInBounds_toArray, List.set_cons_zero, List.set_cons_succ]))
      refine wpAnyE_done (by kernel_rfl) ?_ _
      go_wp2_with fail
      go_meet
      refine ⟨nb, ma, mc, rfl, hnz, ((HN.out.set0 _).set1 _).set2 _, HMX.out.ext (((HEA.out.set hnw _).set hnw _).set hnw _), HMN, ?_⟩
      have hw5 := HHE.out.size
      exact HDR.out.trans ((((HHE.out.trans HEA.out).set (by omega) _).set (by omega) _).set (by omega) _)
    · go_simp
      have EA : Ext W3 (W3.alloc (.cells #[.bool false, .slice none 0 0, .slice none 0 0] 116)) := extA
      have N : Num3 W3.heap.size (W3.alloc (.cells #[.bool false, .slice none 0 0, .slice none 0 0] 116)) (.bool false) (.slice none 0 0) (.slice none 0 0) := ⟨by go_simp, by go_simp, by go_simp, by go_simp, by go_simp, by go_simp⟩
      have hSA := And.intro (EA.cell hS.1) (And.intro (EA.cell hS.2.1) (EA.cell hS.2.2))
      refine hK.out _ _ hSA (fun hHeld => ?_)
      clear hK K hHeld
      (try simp only [Act.put, List.setIfInBounds_toArray, List.set_cons_zero, List.set_cons_succ])
      rw [hzd] at N
      obtain ⟨nb, hnb⟩ : ∃ nb, nb = w2.heap.size := ⟨_, rfl⟩
      have hnl := cell_lt N.c0
      dsimp only at hnl
      rw [← hnb] at N hnl ⊢
      have hnz : w.heap.size + 1 + 1 < nb := by omega
      have hnw : W3.heap.size ≤ nb := by omega
      have HEA := Lib.hid EA
      clear EA hnb
      generalize (W3.alloc (.cells #[.bool false, .slice none 0 0, .slice none 0 0] 116)) = W4 at N HEA hSA hnl ⊢
      (refine wpAnyE_one (i := 6) (o := ?_) ?_ (by kernel_rfl) (fun K hK => ?_); rotate_left; (focus ((simp only [List.getElem?_toArray, List.getElem?_cons_succ, List.getElem?_cons_zero]; exact rfl))); go_simp; go_at_call 150; refine (HT3.out _ (HE0.out.trans HEA.out)).mono ?_; rintro e w5 ⟨ma, mc, rfl, hm, hmn, hE⟩; go_wp2_with fail; refine hK.out _ _ ?_ (fun hHeld => ?_); rotate_left; clear hK K; (try simp only [Act.put, List.setIfInBounds_toArray, List.set_cons_zero, List.set_cons_succ]))
      rotate_left
      · exact ⟨hE.cell hSA.1, hE.cell hSA.2.1, hE.cell hSA.2.2⟩
      (refine eTk 7 ?_)
      have N5 := N.ext hE
      have HMN : Hid (0 < (toB 1000000000 X3).length → ∀ z, ma = some z → z.block ≠ nb ∧ w.heap.size + 1 + 1 < z.block) := fun hl z hz => by
        have h1 := hmn z hz
        omega
      have HMX := Lib.hid hm
      have HHE := Lib.hid (HEA.out.trans hE)
      clear hE hm hmn hHeld hSA hS N
      have HN := Lib.hid N5
      obtain ⟨x0, x1, x2, g0, g1, g2⟩ := N5
      (refine wpAnyE_free (i := 9) (o := ?_) ?_ (by kernel_rfl) (by kernel_rfl) (fun K hK => ?_); rotate_left; (focus ((simp only [List.getElem?_toArray, List.getElem?_cons_succ, List.getElem?_cons_zero]; exact rfl))); go_simp; refine hK.out _ _ ?_; clear hK K; (try simp only [Act.put, List.setIfInBounds_toArray, List.set_cons_zero, List.set_cons_succ]))
      refine wpAnyE_done (by kernel_rfl) ?_ _
      go_wp2_with fail
      go_meet
      refine ⟨nb, ma, mc, rfl, hnz, ((HN.out.set0 _).set1 _).set2 _, ((HMX.out.set2 (fun hl z hz => (HMN.out hl z hz).1)).set2 (fun hl z hz => (HMN.out hl z hz).1)).set2 (fun hl z hz => (HMN.out hl z hz).1), HMN, ?_⟩
      exact HDR.out.trans (((HHE.out.set hnw _).set hnw _).set hnw _)
  case rest =>
    obtain ⟨nb, ma, mc, rfl, hnb, N, HM, hmn, hE⟩ := hcut
    replace A := A.ext hE
    replace B := B.ext hE
    replace R := R.ext hE
    replace E := E.trans hE
    replace HX := Lib.hid (HX.out.ext hE)
    replace HY := Lib.hid (HY.out.ext hE)
    clear hE HT1 HT2 HT3
    obtain ⟨a0, a1, a2, _, _, _⟩ := A
    obtain ⟨b0, b1, b2, _, _, _⟩ := B
    have A := True.intro
    have B := True.intro
    by_cases hsr : s = r
    · have HE : Hid (SN = (s, X1 + X2, X3)) := HSN.out.trans (by rw [if_pos hsr])
      have hsb : (s == r) = true := by rw [hsr]; exact beq_self_eq_true r
      clear HSN hsr
      go_wp2_with fail
      refine ((plus_any X1 X2 _ _ xa ya xc yc wc rfl rfl (by omega) (by omega) HX.out HY.out).mono fun _ _ h => h.newB).mono ?_
      rintro e w4 ⟨pa, pc, rfl, hp, hpn, hE4⟩
      have hzn : nb < wc.heap.size := cell_lt N.out.c0
      have HPN : Hid (∀ z, pa = some z → z.block ≠ nb ∧ w.heap.size + 1 + 1 < z.block) := fun z hz => by have := hpn z hz; omega
      have HP := Lib.hid hp
      have N4 := N.out.ext hE4
      have R4 := R.ext hE4
      have E4 := E.trans hE4
      have HM4 := Lib.hid (HM.out.ext hE4)
      obtain ⟨x0, x1, x2, g0, g1, g2⟩ := N4
      obtain ⟨c0, c1, c2, f0, f1, f2⟩ := R4
      have hne : nb ≠ w.heap.size + 1 + 1 := by omega
      clear hE4 hp hpn A B R E N HX HY HM
      go_wp2_with fail
      refine bodyPost_ret (v := .agg #[.bool s, .slice pa (toB 1000000000 (X1 + X2)).length pc, .slice ma (toB 1000000000 X3).length mc]) (by rw [results_cell1 rfl]; go_simp) rfl ?_
      refine ⟨_, rfl, ?_, newN_mk (fun hl z hz => by have := (HPN.out z hz).2; omega) (fun hl z hz => by have := (hmn.out hl z hz).2; omega), extA⟩
      rw [HE.out]
      refine ⟨pa, pc, ma, mc, rfl, ?_, ?_⟩
      · exact (CellsN.set2 (CellsN.set2 (CellsN.set2 (CellsN.set2 HP.out (fun hl z hz => (HPN.out z hz).1)) (fun hl z hz => Nat.ne_of_gt (HPN.out z hz).2)) (fun hl z hz => Nat.ne_of_gt (HPN.out z hz).2)) (fun hl z hz => Nat.ne_of_gt (HPN.out z hz).2))
      · exact (CellsN.set2 (CellsN.set2 (CellsN.set2 (CellsN.set2 HM4.out (fun hl z hz => (hmn.out hl z hz).1)) (fun hl z hz => Nat.ne_of_gt (hmn.out hl z hz).2)) (fun hl z hz => Nat.ne_of_gt (hmn.out hl z hz).2)) (fun hl z hz => Nat.ne_of_gt (hmn.out hl z hz).2))
    · have hsb : (s == r) = false := by rw [beq_eq_false_iff_ne]; exact hsr
      by_cases hle : X2 ≤ X1
      · have HE : Hid (SN = (s, X1 - X2, X3)) := HSN.out.trans (by rw [if_neg hsr, if_pos hle])
        obtain ⟨z, hz, hz0⟩ : ∃ z, ordN X1 X2 = z ∧ 0 ≤ z := ⟨_, rfl, ordN_ge.2 hle⟩
        have HLE := Lib.hid hle
        clear HSN hsr hle
        go_wp2_with fail
        refine (compare_any X1 X2 _ _ xa ya xc yc wc rfl rfl (by omega) (by omega) HX.out HY.out).mono ?_
        rintro e wd ⟨rfl, hE⟩
        rw [hz]
        replace R := R.ext hE
        replace E := E.trans hE
        replace HX := Lib.hid (HX.out.ext hE)
        replace HY := Lib.hid (HY.out.ext hE)
        replace N := Lib.hid (N.out.ext hE)
        replace HM := Lib.hid (HM.out.ext hE)
        clear hE hz a0 a1 a2 b0 b1 b2
        go_wp2_with fail
        refine ((minus_any X1 X2 _ _ xa ya xc yc wd rfl rfl HLE.out (by omega) HX.out HY.out).mono fun _ _ h => h.newB).mono ?_
        rintro e w4 ⟨pa, pc, rfl, hp, hpn, hE4⟩
        have hzn : nb < wd.heap.size := cell_lt N.out.c0
        have HPN : Hid (∀ z, pa = some z → z.block ≠ nb ∧ w.heap.size + 1 + 1 < z.block) := fun z hz => by have := hpn z hz; omega
        have HP := Lib.hid hp
        have N4 := N.out.ext hE4
        have R4 := R.ext hE4
        have E4 := E.trans hE4
        have HM4 := Lib.hid (HM.out.ext hE4)
        obtain ⟨x0, x1, x2, g0, g1, g2⟩ := N4
        obtain ⟨c0, c1, c2, f0, f1, f2⟩ := R4
        have hne : nb ≠ w.heap.size + 1 + 1 := by omega
        clear hE4 hp hpn A B R E N HX HY HM
        go_wp2_with fail
        refine bodyPost_ret (v := .agg #[.bool s, .slice pa (toB 1000000000 (X1 - X2)).length pc, .slice ma (toB 1000000000 X3).length mc]) (by rw [results_cell1 rfl]; go_simp) rfl ?_
        refine ⟨_, rfl, ?_, newN_mk (fun hl z hz => by have := (HPN.out z hz).2; omega) (fun hl z hz => by have := (hmn.out hl z hz).2; omega), extA⟩
        rw [HE.out]
        refine ⟨pa, pc, ma, mc, rfl, ?_, ?_⟩
        · exact (CellsN.set2 (CellsN.set2 (CellsN.set2 (CellsN.set2 HP.out (fun hl z hz => (HPN.out z hz).1)) (fun hl z hz => Nat.ne_of_gt (HPN.out z hz).2)) (fun hl z hz => Nat.ne_of_gt (HPN.out z hz).2)) (fun hl z hz => Nat.ne_of_gt (HPN.out z hz).2))
        · exact (CellsN.set2 (CellsN.set2 (CellsN.set2 (CellsN.set2 HM4.out (fun hl z hz => (hmn.out hl z hz).1)) (fun hl z hz => Nat.ne_of_gt (hmn.out hl z hz).2)) (fun hl z hz => Nat.ne_of_gt (hmn.out hl z hz).2)) (fun hl z hz => Nat.ne_of_gt (hmn.out hl z hz).2))
      · have HE : Hid (SN = (r, X2 - X1, X3)) := HSN.out.trans (by rw [if_neg hsr, if_neg hle])
        obtain ⟨z, hz, hz0⟩ : ∃ z, ordN X1 X2 = z ∧ ¬ 0 ≤ z := ⟨_, rfl, fun h => hle (ordN_ge.1 h)⟩
        have HLE : Hid (X1 ≤ X2) := by show _ ≤ _; omega
        clear HSN hsr hle
        go_wp2_with fail
        refine (compare_any X1 X2 _ _ xa ya xc yc wc rfl rfl (by omega) (by omega) HX.out HY.out).mono ?_
        rintro e wd ⟨rfl, hE⟩
        rw [hz]
        replace R := R.ext hE
        replace E := E.trans hE
        replace HX := Lib.hid (HX.out.ext hE)
        replace HY := Lib.hid (HY.out.ext hE)
        replace N := Lib.hid (N.out.ext hE)
        replace HM := Lib.hid (HM.out.ext hE)
        replace b0 := hE.cell b0
        clear hE hz a0 a1 a2 b1 b2
        go_wp2_with fail
        have hdr : Ext wd wd.drew := extA
        have hS : wd.drew.cell? ⟨w.heap.size + 1, 0, none⟩ = some (.bool r) := hdr.cell b0
        replace R := R.ext hdr
        replace E := E.trans hdr
        replace HX := Lib.hid (HX.out.ext hdr)
        replace HY := Lib.hid (HY.out.ext hdr)
        replace N := Lib.hid (N.out.ext hdr)
        replace HM := Lib.hid (HM.out.ext hdr)
        refine wp_region_heldE 6 (fun w' => w'.cell? ⟨w.heap.size + 1, 0, none⟩ = some (.bool r)) (by kernel_rfl) ?_
        clear b0 hdr
        generalize wd.drew = wd at R E HX HY N HM hS ⊢
        ((refine eTk 0 ?_); (refine eTk 1 ?_))
        ((refine ePu 2 ?_); (refine ePu 3 ?_); (refine ePu 5 ?_))
        (refine wpAnyE_one (i := 4) (o := ?_) ?_ (by kernel_rfl) (fun K hK => ?_); rotate_left; (focus ((simp only [List.getElem?_toArray, List.getElem?_cons_succ, List.getElem?_cons_zero]; exact rfl))); go_simp; go_at_call 152; refine ((minus_any X2 X1 _ _ ya xa yc xc wd rfl rfl HLE.out (by omega) HY.out HX.out).mono fun _ _ h => h.newB).mono ?_; rintro e w4 ⟨pa, pc, rfl, hp, hpn, hE4⟩; go_wp2_with fail; refine hK.out _ _ ?_ (fun hHeld => ?_); rotate_left; clear hK K; (try simp only [Act.put, List.setIfInBounds_toArray, List.set_cons_zero, List.set_cons_succ]))
        rotate_left
        · exact hE4.cell hS
        have hzn : nb < wd.heap.size := cell_lt N.out.c0
        have HPN : Hid (∀ z, pa = some z → z.block ≠ nb ∧ w.heap.size + 1 + 1 < z.block) := fun z hz => by have := hpn z hz; omega
        have HP := Lib.hid hp
        have N4 := N.out.ext hE4
        have R4 := R.ext hE4
        have E4 := E.trans hE4
        have HM4 := Lib.hid (HM.out.ext hE4)
        obtain ⟨x0, x1, x2, g0, g1, g2⟩ := N4
        obtain ⟨c0, c1, c2, f0, f1, f2⟩ := R4
        have hne : nb ≠ w.heap.size + 1 + 1 := by omega
        have hSf := hE4.cell hS
        clear hE4 hp hpn R E N HX HY HM hS hHeld
        (refine wpAnyE_free (i := 6) (o := ?_) ?_ (by kernel_rfl) (by kernel_rfl) (fun K hK => ?_); rotate_left; (focus ((simp only [List.getElem?_toArray, List.getElem?_cons_succ, List.getElem?_cons_zero]; exact rfl))); go_simp; refine hK.out _ _ ?_; clear hK K; (try simp only [Act.put, List.setIfInBounds_toArray, List.set_cons_zero, List.set_cons_succ]))
        (refine ePu 7 ?_)
        (refine wpAnyE_free (i := 8) (o := ?_) ?_ (by kernel_rfl) (by kernel_rfl) (fun K hK => ?_); rotate_left; (focus ((simp only [List.getElem?_toArray, List.getElem?_cons_succ, List.getElem?_cons_zero]; exact rfl))); go_simp; refine hK.out _ _ ?_; clear hK K; (try simp only [Act.put, List.setIfInBounds_toArray, List.set_cons_zero, List.set_cons_succ]))
        refine wpAnyE_done (by kernel_rfl) ?_ _
        go_wp2_with fail
        refine bodyPost_ret (v := .agg #[.bool r, .slice pa (toB 1000000000 (X2 - X1)).length pc, .slice ma (toB 1000000000 X3).length mc]) (by rw [results_cell1 rfl]; go_simp) rfl ?_
        refine ⟨_, rfl, ?_, newN_mk (fun hl z hz => by have := (HPN.out z hz).2; omega) (fun hl z hz => by have := (hmn.out hl z hz).2; omega), extA⟩
        rw [HE.out]
        refine ⟨pa, pc, ma, mc, rfl, ?_, ?_⟩
        · exact (CellsN.set2 (CellsN.set2 (CellsN.set2 (CellsN.set2 (CellsN.set2 HP.out (fun hl z hz => (HPN.out z hz).1)) (fun hl z hz => (HPN.out z hz).1)) (fun hl z hz => Nat.ne_of_gt (HPN.out z hz).2)) (fun hl z hz => Nat.ne_of_gt (HPN.out z hz).2)) (fun hl z hz => Nat.ne_of_gt (HPN.out z hz).2))
        · exact (CellsN.set2 (CellsN.set2 (CellsN.set2 (CellsN.set2 (CellsN.set2 HM4.out (fun hl z hz => (hmn.out hl z hz).1)) (fun hl z hz => (hmn.out hl z hz).1)) (fun hl z hz => Nat.ne_of_gt (hmn.out hl z hz).2)) (fun hl z hz => Nat.ne_of_gt (hmn.out hl z hz).2)) (fun hl z hz => Nat.ne_of_gt (hmn.out hl z hz).2))
end Go.Proofs.YtdejgaiocjfhjaaGreatDoor
namespace Go.Proofs.YtdejgaiocjfhjaaGreatDoor
open Go.RowKit
open Go.Lib (decDigits)
def NumR (w : World) (v : Value) (x : Num) : Prop := ∃ ta tc ba bc, v = .agg #[.bool x.1, .slice ta (toB 1000000 x.2.1).length tc, .slice ba (toB 1000000 x.2.2).length bc] ∧
  CellsN .i64 w ta (toB 1000000 x.2.1) ∧ CellsN .i64 w ba (toB 1000000 x.2.2)
theorem NumR.ext {w w' : World} {v : Value} {x : Num} (h : NumR w v x) (e : Ext w w') : NumR w' v x := by
  obtain ⟨ta, tc, ba, bc, h1, h2, h3⟩ := h
  exact ⟨ta, tc, ba, bc, h1, h2.ext e, h3.ext e⟩
end Go.Proofs.YtdejgaiocjfhjaaGreatDoor
namespace Go.Proofs.YtdejgaiocjfhjaaGreatDoor
open Go.RowKit
open Go.Lib (decDigits)
theorem dec_zero {n : Nat} : decDigits n = [48] ↔ n = 0 := by
  constructor
  · intro h
    have := (digits_ok n).2.1
    rw [h] at this
    exact this.symm
  · rintro rfl; exact digits_small (by omega)
theorem dec_one {n : Nat} : decDigits n = [49] ↔ n = 1 := by
  constructor
  · intro h
    have := (digits_ok n).2.1
    rw [h] at this
    exact this.symm
  · rintro rfl; exact digits_small (by omega)
def joinT (s : Bool) (T D : Txt) : Txt := (if s && decide (T ≠ [48]) then 45 :: T else T) ++ (if D = [49] then [] else 47 :: D)
theorem made_parts {s : Bool} {t d : Nat} (hd : d ≠ 0) {T D : Txt} (hT : T = decDigits (t / Nat.gcd t d)) (hD : D = decDigits (d / Nat.gcd t d)) :
    (¬ (60 < T.length ∨ 60 < D.length) → madeT (numQ s t d) = joinT s T D ∧ madeE (numQ s t d) = 0) ∧ ((60 < T.length ∨ 60 < D.length) → madeT (numQ s t d) = [] ∧ madeE (numQ s t d) = 11) := by
  have hf := num_fit (s := s) (t := t) hd
  rw [← hT, ← hD] at hf
  unfold madeT madeE
  constructor
  · intro h
    rw [if_pos (hf.2 (by omega)), if_pos (hf.2 (by omega)), num_text hd, ← hT, ← hD]
    refine ⟨?_, rfl⟩
    unfold joinT
    have e1 : decide (t / Nat.gcd t d ≠ 0) = decide (T ≠ [48]) := decide_eq_decide.2 (by rw [hT, Ne, Ne, dec_zero])
    rw [e1]
    congr 1
    by_cases h1 : d / Nat.gcd t d = 1
    · rw [if_pos h1, if_pos (by rw [hD]; exact dec_one.2 h1)]
    · rw [if_neg h1, if_neg (by rw [hD]; exact fun e => h1 (dec_one.1 e))]
  · intro h
    rw [if_neg (fun e => by have := hf.1 e; omega), if_neg (fun e => by have := hf.1 e; omega)]
    exact ⟨rfl, rfl⟩
def WritPost (q : Rat) (w : World) (e : Ending) (w' : World) : Prop := e = .returned (.tuple #[txt (madeT q), .int .i64 (madeE q : Nat)]) ∧ Ext w w'
theorem bare_digits (n : Nat) : bareS (decDigits n) = decDigits n := bare_pos (canon_pos (canon_digits n))
theorem OwnNPost2.newC2 {x y : Nat} {w : World} {e : Ending} {w' : World} (h : OwnNPost2 .u64 161 (toB 1000000000 x) (toB 1000000000 y) w e w') :
    ∃ a c b d, e = .returned (.tuple #[.slice a (toB 1000000000 x).length c, .slice b (toB 1000000000 y).length d]) ∧ CellsN .u64 w' a (toB 1000000000 x) ∧ CellsN .u64 w' b (toB 1000000000 y) ∧ (∀ p, a = some p → w.heap.size ≤ p.block) ∧ (∀ p, b = some p → w.heap.size ≤ p.block) ∧ Ext w w' := by
  obtain ⟨v, u, h1, h2, h3, h4, h5, h6⟩ := h
  obtain ⟨a, c, rfl, k1, _⟩ := h2.reads
  obtain ⟨b, d, rfl, k2, _⟩ := h3.reads
  exact ⟨a, c, b, d, h1, k1, k2, (fun p hp => h4 p.block (by rw [hp]; rfl)), (fun p hp => h5 p.block (by rw [hp]; rfl)), h6⟩
set_option maxHeartbeats 8000000 in
set_option maxRecDepth 100000 in
theorem written_any (s : Bool) (t d : Nat) (v : Value) (w : World) (hv : NumV w v (s, t, d)) (hd : d ≠ 0) (hG : Glob w) (h1 : (toB 1000000000 t).length ≤ 90) (h2 : (toB 1000000000 d).length ≤ 90) :
    Calls Tryz.prog 126 #[v] w (WritPost (numQ s t d) w) := by
  obtain ⟨ta, tc, ba, bc, rfl, hct, hcb⟩ := hv
  obtain ⟨T, hT⟩ : ∃ T, T = decDigits (t / Nat.gcd t d) := ⟨_, rfl⟩
  obtain ⟨D, hD⟩ : ∃ D, D = decDigits (d / Nat.gcd t d) := ⟨_, rfl⟩
  have HMP := Lib.hid (made_parts (s := s) hd hT hD)
  obtain ⟨g, hg⟩ : ∃ g, g = Nat.gcd t d := ⟨_, rfl⟩
  have hg0 : 0 < g := by rw [hg]; exact Nat.gcd_pos_of_pos_right _ (by omega)
  rw [← hg] at hT hD
  have hbT : bareS T = T := by rw [hT]; exact bare_digits _
  have hbD : bareS D = D := by rw [hD]; exact bare_digits _
  have hdl := lt_of_len (x := d) rfl (by omega)
  have hgl : (toB 1000000000 g).length ≤ 100 := by
    have hgd : g ≤ d := by rw [hg]; exact Nat.gcd_le_right _ (by omega)
    exact toB_len (by omega) 100 (by omega)
  have htl := lt_of_len (x := t) rfl (by omega)
  have hn1 : (toB 1000000000 (t / g)).length ≤ 100 := toB_len (by omega) 100 (by have := Nat.div_le_self t g; omega)
  have hn2 : (toB 1000000000 (d / g)).length ≤ 100 := toB_len (by omega) 100 (by have := Nat.div_le_self d g; omega)
  have HDV := Lib.hid (fun W (hW : Ext w W) => (divisor_any t d _ _ ta ba tc bc W rfl rfl (by omega) (by omega) (by omega) (hct.ext hW) (hcb.ext hW)).mono fun _ _ h => h.newB)
  rw [← hg] at HDV
  have HO1 := Lib.hid (fun W (hW : Ext w W) ga gc (hgc : CellsN .u64 W ga (toB 1000000000 g)) => (over_any t g _ _ ta ga tc gc W rfl rfl hg0 (by omega) (by omega) (hct.ext hW) hgc).mono fun _ _ h => h.newC2)
  have HO2 := Lib.hid (fun W (hW : Ext w W) ga gc (hgc : CellsN .u64 W ga (toB 1000000000 g)) => (over_any d g _ _ ba ga bc gc W rfl rfl hg0 (by omega) (by omega) (hcb.ext hW) hgc).mono fun _ _ h => h.newC2)
  have HTX := Lib.hid (fun W (hW : Ext w W) a c (hc : CellsN .u64 W a (toB 1000000000 (t / g))) => text_any (t / g) _ a c W rfl (by omega) (hG.ext hW) hc)
  have HDX := Lib.hid (fun W (hW : Ext w W) a c (hc : CellsN .u64 W a (toB 1000000000 (d / g))) => text_any (d / g) _ a c W rfl (by omega) (hG.ext hW) hc)
  rw [← hT] at HTX
  rw [← hD] at HDX
  have HL1 := Lib.hid (fun W => long_any T W)
  have HL2 := Lib.hid (fun W => long_any D W)
  rw [hbT] at HL1
  rw [hbD] at HL2
  have HCT := Lib.hid hct
  have HCB := Lib.hid hcb
  have HG1 : Hid (g = 1 → t / g = t ∧ d / g = d) := fun e => by rw [e, Nat.div_one, Nat.div_one]; exact ⟨rfl, rfl⟩
  generalize numQ s t d = q at *
  generalize t / g = n1 at *
  generalize d / g = n2 at *
  clear hct hcb hbT hbD hT hD hg hdl htl hd hG
  go_enter Tryz.func126, Tryz.ntmps126
  go_wp2_with fail
  have E : Ext w (w.alloc (.cells #[.bool s, .slice ta (toB 1000000000 t).length tc, .slice ba (toB 1000000000 d).length bc] 116)) := extA
  have X : Num3 w.heap.size (w.alloc (.cells #[.bool s, .slice ta (toB 1000000000 t).length tc, .slice ba (toB 1000000000 d).length bc] 116)) (.bool s) (.slice ta (toB 1000000000 t).length tc) (.slice ba (toB 1000000000 d).length bc) := ⟨by go_simp, by go_simp, by go_simp, by go_simp, by go_simp, by go_simp⟩
  have hW0 : w.heap.size < (w.alloc (.cells #[.bool s, .slice ta (toB 1000000000 t).length tc, .slice ba (toB 1000000000 d).length bc] 116)).heap.size := by simp
  generalize (w.alloc (.cells #[.bool s, .slice ta (toB 1000000000 t).length tc, .slice ba (toB 1000000000 d).length bc] 116)) = W0 at E X hW0 ⊢
  refine (HDV.out _ E).mono ?_
  rintro e w1 ⟨ga, gc, rfl, hgc, hgn, hE⟩
  have EV : Ext w1 (w1.alloc (.cells #[.int .u64 1] 161)) := extA
  replace X := (X.ext hE).ext EV
  replace E := (E.trans hE).trans EV
  have HGC := Lib.hid (hgc.ext EV)
  have HGN : Hid (∀ p, ga = some p → p.block ≠ w.heap.size) := fun p hp => by have h1 := hgn p hp; have h2 : w.heap.size < W0.heap.size := hW0; omega
  have HL := Lib.hid (cells_lit w1 161)
  clear hE EV hgc hgn
  go_wp2_with fail
  generalize (w1.alloc (.cells #[.int .u64 1] 161)) = w2 at X E HGC HL ⊢
  refine (compare1_any g _ ga gc w1.heap.size _ rfl (by omega) HGC.out HL.out).mono ?_
  rintro e w3 ⟨rfl, hE⟩
  replace X := X.ext hE
  replace E := E.trans hE
  replace HGC := Lib.hid (HGC.out.ext hE)
  clear hE HL
  have hwl : w.heap.size < w3.heap.size := cell_lt X.c0
  by_cases hle : g ≤ 1
  · obtain ⟨e1, e2⟩ := HG1.out (by omega)
    subst e1 e2
    obtain ⟨z, hz, hz0⟩ : ∃ z, ordN g 1 = z ∧ ¬ 0 < z := ⟨_, rfl, by have := ordN_le.2 hle; omega⟩
    rw [hz]
    have HC1 := Lib.hid (HCT.out.ext E)
    have HC2 := Lib.hid (HCB.out.ext E)
    clear hz
    go_wp2_with fail
    have hdr : Ext w3 w3.drew := extA
    have hS : w3.drew.cell? ⟨w.heap.size, 1, none⟩ = some (.slice ta (toB 1000000000 n1).length tc) ∧ w3.drew.cell? ⟨w.heap.size, 2, none⟩ = some (.slice ba (toB 1000000000 n2).length bc) := ⟨hdr.cell X.c1, hdr.cell X.c2⟩
    have x0 := hdr.cell X.c0
    have HEW := Lib.hid (E.trans hdr)
    have HC1w := Lib.hid (HC1.out.ext hdr)
    have HC2w := Lib.hid (HC2.out.ext hdr)
    refine wp_region_heldE 99 (fun w' => w'.cell? ⟨w.heap.size, 1, none⟩ = some (.slice ta (toB 1000000000 n1).length tc) ∧ w'.cell? ⟨w.heap.size, 2, none⟩ = some (.slice ba (toB 1000000000 n2).length bc)) (by kernel_rfl) ?_
    clear X E HC1 HC2 hdr
    ((refine eTk 0 ?_); (refine eTk 1 ?_); (refine eTk 3 ?_); (refine eTk 4 ?_))
    (refine wpAnyE_one (i := 2) (o := ?_) ?_ (by kernel_rfl) (fun K hK => ?_); rotate_left; (focus ((simp only [List.getElem?_toArray, List.getElem?_cons_succ, List.getElem?_cons_zero]; exact rfl))); go_simp; go_at_call 158; refine (HTX.out _ HEW.out _ _ HC1w.out).mono ?_; rintro e w8 ⟨rfl, hE8⟩; go_wp2_with fail; refine hK.out _ _ ?_ (fun hHeld => ?_); rotate_left; clear hK K; (try simp only [Act.put, List.setIfInBounds_toArray, List.set_cons_zero, List.set_cons_succ]))
    rotate_left
    · exact ⟨hE8.cell hS.1, hE8.cell hS.2⟩
    have hS2 : w8.cell? ⟨w.heap.size, 1, none⟩ = some (.slice ta (toB 1000000000 n1).length tc) ∧ w8.cell? ⟨w.heap.size, 2, none⟩ = some (.slice ba (toB 1000000000 n2).length bc) := ⟨hE8.cell hS.1, hE8.cell hS.2⟩
    replace x0 := hE8.cell x0
    have HE8 := Lib.hid (HEW.out.trans hE8)
    have HC8 := Lib.hid (HC2w.out.ext hE8)
    clear hE8 hS HEW HC1w HC2w
    (refine wpAnyE_one (i := 5) (o := ?_) ?_ (by kernel_rfl) (fun K hK => ?_); rotate_left; (focus ((simp only [List.getElem?_toArray, List.getElem?_cons_succ, List.getElem?_cons_zero]; exact rfl))); go_simp; go_at_call 158; refine (HDX.out _ HE8.out _ _ HC8.out).mono ?_; rintro e w9 ⟨rfl, hE9⟩; go_wp2_with fail; refine hK.out _ _ ?_ (fun hHeld => ?_); rotate_left; clear hK K; (try simp only [Act.put, List.setIfInBounds_toArray, List.set_cons_zero, List.set_cons_succ]))
    rotate_left
    · exact ⟨hE9.cell hS2.1, hE9.cell hS2.2⟩
    replace x0 := hE9.cell x0
    have E := HE8.out.trans hE9
    clear hE9 hS2 HE8 HC8
    ((refine eTk 6 ?_); (refine eTk 7 ?_))
    refine wpAnyE_done (by kernel_rfl) ?_ _
    clear hHeld HTX HDX HDV HO1 HO2 HCT HCB HG1
    by_cases hb1 : 60 < T.length
    · have HE := Lib.hid (HMP.out.2 (.inl hb1))
      rw [decide_eq_true hb1] at HL1
      clear hb1 HMP
      go_wp2_with (first
        | (go_at_call 129; (with_reducible refine (HL1.out _).mono ?_); rintro e w' ⟨rfl, hE⟩; replace x0 := hE.cell x0; replace E := E.trans hE; clear hE)
        | (go_at_call 129; (with_reducible refine (HL2.out _).mono ?_); rintro e w' ⟨rfl, hE⟩; replace x0 := hE.cell x0; replace E := E.trans hE; clear hE))
      go_ret2
      exact ⟨by rw [HE.out.1, HE.out.2]; rfl, E⟩
    by_cases hb2 : 60 < D.length
    · have HE := Lib.hid (HMP.out.2 (.inr hb2))
      rw [decide_eq_false hb1] at HL1
      rw [decide_eq_true hb2] at HL2
      clear hb1 hb2 HMP
      go_wp2_with (first
        | (go_at_call 129; (with_reducible refine (HL1.out _).mono ?_); rintro e w' ⟨rfl, hE⟩; replace x0 := hE.cell x0; replace E := E.trans hE; clear hE)
        | (go_at_call 129; (with_reducible refine (HL2.out _).mono ?_); rintro e w' ⟨rfl, hE⟩; replace x0 := hE.cell x0; replace E := E.trans hE; clear hE))
      go_ret2
      exact ⟨by rw [HE.out.1, HE.out.2]; rfl, E⟩
    have HE := Lib.hid (HMP.out.1 (fun h => h.elim hb1 hb2))
    rw [decide_eq_false hb1] at HL1
    rw [decide_eq_false hb2] at HL2
    clear HMP
    have a1 := app_txt [45] T
    have a2 := app_txt [47] D
    have a3 := app_txt T (47 :: D)
    have a4 := app_txt (45 :: T) (47 :: D)
    have l1 : ¬ 9223372036854775807 < 1 + T.length := by omega
    have l2 : ¬ 9223372036854775807 < 1 + D.length := by omega
    have l3 : ¬ 9223372036854775807 < T.length + (D.length + 1) := by omega
    have l4 : ¬ 9223372036854775807 < T.length + 1 + (D.length + 1) := by omega
    by_cases hD1 : D = [49]
    · have d1 : (D == [49]) = true := by rw [hD1]; rfl
      have HJD := Lib.hid hD1
      clear hD1
      cases s
      · have HJ : Hid (joinT false T D = T) := by show _ = _; unfold joinT; rw [if_pos HJD.out]; simp
        go_wp2_with (first
          | (go_at_call 129; (with_reducible refine (HL1.out _).mono ?_); rintro e w' ⟨rfl, hE⟩; replace x0 := hE.cell x0; replace E := E.trans hE; clear hE)
          | (go_at_call 129; (with_reducible refine (HL2.out _).mono ?_); rintro e w' ⟨rfl, hE⟩; replace x0 := hE.cell x0; replace E := E.trans hE; clear hE))
        go_ret2
        exact ⟨by rw [HE.out.1, HE.out.2, HJ.out]; rfl, E⟩
      · by_cases hT0 : T = [48]
        · have t1 : (T == [48]) = true := by rw [hT0]; rfl
          have HJ : Hid (joinT true T D = T) := by show _ = _; unfold joinT; rw [if_pos HJD.out, hT0]; simp
          clear hT0
          go_wp2_with (first
            | (go_at_call 129; (with_reducible refine (HL1.out _).mono ?_); rintro e w' ⟨rfl, hE⟩; replace x0 := hE.cell x0; replace E := E.trans hE; clear hE)
            | (go_at_call 129; (with_reducible refine (HL2.out _).mono ?_); rintro e w' ⟨rfl, hE⟩; replace x0 := hE.cell x0; replace E := E.trans hE; clear hE))
          go_ret2
          exact ⟨by rw [HE.out.1, HE.out.2, HJ.out]; rfl, E⟩
        · have t1 : (T == [48]) = false := by rw [beq_eq_false_iff_ne]; exact hT0
          have HJ : Hid (joinT true T D = 45 :: T) := by show _ = _; unfold joinT; rw [if_pos HJD.out, decide_eq_true hT0]; simp
          clear hT0
          go_wp2_with (first
            | (go_at_call 129; (with_reducible refine (HL1.out _).mono ?_); rintro e w' ⟨rfl, hE⟩; replace x0 := hE.cell x0; replace E := E.trans hE; clear hE)
            | (go_at_call 129; (with_reducible refine (HL2.out _).mono ?_); rintro e w' ⟨rfl, hE⟩; replace x0 := hE.cell x0; replace E := E.trans hE; clear hE))
          go_ret2
          exact ⟨by rw [HE.out.1, HE.out.2, HJ.out]; rfl, E⟩
    · have d1 : (D == [49]) = false := by rw [beq_eq_false_iff_ne]; exact hD1
      have HJD := Lib.hid hD1
      clear hD1
      cases s
      · have HJ : Hid (joinT false T D = T ++ 47 :: D) := by show _ = _; unfold joinT; rw [if_neg HJD.out]; simp
        go_wp2_with (first
          | (go_at_call 129; (with_reducible refine (HL1.out _).mono ?_); rintro e w' ⟨rfl, hE⟩; replace x0 := hE.cell x0; replace E := E.trans hE; clear hE)
          | (go_at_call 129; (with_reducible refine (HL2.out _).mono ?_); rintro e w' ⟨rfl, hE⟩; replace x0 := hE.cell x0; replace E := E.trans hE; clear hE))
        go_ret2
        exact ⟨by rw [HE.out.1, HE.out.2, HJ.out]; rfl, E⟩
      · by_cases hT0 : T = [48]
        · have t1 : (T == [48]) = true := by rw [hT0]; rfl
          have HJ : Hid (joinT true T D = T ++ 47 :: D) := by show _ = _; unfold joinT; rw [if_neg HJD.out, hT0]; simp
          clear hT0
          go_wp2_with (first
            | (go_at_call 129; (with_reducible refine (HL1.out _).mono ?_); rintro e w' ⟨rfl, hE⟩; replace x0 := hE.cell x0; replace E := E.trans hE; clear hE)
            | (go_at_call 129; (with_reducible refine (HL2.out _).mono ?_); rintro e w' ⟨rfl, hE⟩; replace x0 := hE.cell x0; replace E := E.trans hE; clear hE))
          go_ret2
          exact ⟨by rw [HE.out.1, HE.out.2, HJ.out]; rfl, E⟩
        · have t1 : (T == [48]) = false := by rw [beq_eq_false_iff_ne]; exact hT0
          have HJ : Hid (joinT true T D = (45 :: T) ++ 47 :: D) := by show _ = _; unfold joinT; rw [if_neg HJD.out, decide_eq_true hT0]; simp
          clear hT0
          go_wp2_with (first
            | (go_at_call 129; (with_reducible refine (HL1.out _).mono ?_); rintro e w' ⟨rfl, hE⟩; replace x0 := hE.cell x0; replace E := E.trans hE; clear hE)
            | (go_at_call 129; (with_reducible refine (HL2.out _).mono ?_); rintro e w' ⟨rfl, hE⟩; replace x0 := hE.cell x0; replace E := E.trans hE; clear hE))
          go_ret2
          exact ⟨by rw [HE.out.1, HE.out.2, HJ.out]; rfl, E⟩
  · obtain ⟨z, hz, hz0⟩ : ∃ z, ordN g 1 = z ∧ 0 < z := ⟨_, rfl, by
      have h : ¬ ordN g 1 ≤ 0 := fun h => hle (ordN_le.1 h)
      omega⟩
    rw [hz]
    clear hz
    obtain ⟨x0, x1, x2, g0, g1, g2⟩ := X
    go_wp2_with fail
    refine (HO1.out _ E ga gc HGC.out).mono ?_
    rintro e w4 ⟨qa, qc, qb, qd, rfl, hq1, hq2, hqn, hqm, hE⟩
    have X := (Num3.mk x0 x1 x2 g0 g1 g2).ext hE
    have hqx : ∀ p, qa = some p → p.block ≠ w.heap.size := fun p hp => by have := hqn p hp; omega
    have HQ1 := Lib.hid (hq1.set (c := w.heap.size) (o := 1) (v := .slice qa (toB 1000000000 n1).length qc) hqx)
    have HQX := Lib.hid hqx
    replace E := E.trans hE
    have HX := Lib.hid (X.set1 (.slice qa (toB 1000000000 n1).length qc))
    have HGC := Lib.hid ((HGC.out.ext hE))
    have hwl4 : w.heap.size < w4.heap.size := cell_lt X.c0
    clear x0 x1 x2 g0 g1 g2 hq1 hq2 hqn hqm hE hqx
    obtain ⟨x0, x1, x2, g0, g1, g2⟩ := X
    have E5 : Ext w (w4.setCell ⟨w.heap.size, 1, none⟩ (.slice qa (toB 1000000000 n1).length qc)) := E.set (Nat.le_refl _) _
    have hgx : Hid (CellsN .u64 (w4.setCell ⟨w.heap.size, 1, none⟩ (.slice qa (toB 1000000000 n1).length qc)) ga (toB 1000000000 g)) := HGC.out.set (HGN.out)
    go_wp2_with fail
    generalize w4.setCell ⟨w.heap.size, 1, none⟩ (.slice qa (toB 1000000000 n1).length qc) = w5 at HX HQ1 E5 hgx ⊢
    clear x0 x1 x2 g0 g1 g2 E HGC
    refine (HO2.out _ E5 ga gc hgx.out).mono ?_
    rintro e w7 ⟨ra, rc, rb, rd, rfl, hr1, hr2, hrn, hrm, hE⟩
    have hw5 : w.heap.size < w5.heap.size := cell_lt HX.out.c0
    have X := HX.out.ext hE
    have hrx : ∀ p, ra = some p → p.block ≠ w.heap.size := fun p hp => by have := hrn p hp; omega
    have HC2 := Lib.hid (hr1.set (c := w.heap.size) (o := 2) (v := .slice ra (toB 1000000000 n2).length rc) hrx)
    have HC1 := Lib.hid ((HQ1.out.ext hE).set (c := w.heap.size) (o := 2) (v := .slice ra (toB 1000000000 n2).length rc) HQX.out)
    have E6 : Ext w (w7.setCell ⟨w.heap.size, 2, none⟩ (.slice ra (toB 1000000000 n2).length rc)) := (E5.trans hE).set (Nat.le_refl _) _
    have HX6 := Lib.hid (X.set2 (.slice ra (toB 1000000000 n2).length rc))
    clear hr1 hr2 hrn hrm hE hrx HX HQ1 HQX E5 hgx
    obtain ⟨x0, x1, x2, g0, g1, g2⟩ := X
    go_wp2_with fail
    generalize w7.setCell ⟨w.heap.size, 2, none⟩ (.slice ra (toB 1000000000 n2).length rc) = w6 at HX6 HC1 HC2 E6 ⊢
    clear x0 x1 x2 g0 g1 g2
    have X := HX6.out
    have E := E6
    clear E6 HX6
    have hdr : Ext w6 w6.drew := extA
    have hS : w6.drew.cell? ⟨w.heap.size, 1, none⟩ = some (.slice qa (toB 1000000000 n1).length qc) ∧ w6.drew.cell? ⟨w.heap.size, 2, none⟩ = some (.slice ra (toB 1000000000 n2).length rc) := ⟨hdr.cell X.c1, hdr.cell X.c2⟩
    have x0 := hdr.cell X.c0
    have HEW := Lib.hid (E.trans hdr)
    have HC1w := Lib.hid (HC1.out.ext hdr)
    have HC2w := Lib.hid (HC2.out.ext hdr)
    refine wp_region_heldE 99 (fun w' => w'.cell? ⟨w.heap.size, 1, none⟩ = some (.slice qa (toB 1000000000 n1).length qc) ∧ w'.cell? ⟨w.heap.size, 2, none⟩ = some (.slice ra (toB 1000000000 n2).length rc)) (by kernel_rfl) ?_
    clear X E HC1 HC2 hdr
    ((refine eTk 0 ?_); (refine eTk 1 ?_); (refine eTk 3 ?_); (refine eTk 4 ?_))
    (refine wpAnyE_one (i := 2) (o := ?_) ?_ (by kernel_rfl) (fun K hK => ?_); rotate_left; (focus ((simp only [List.getElem?_toArray, List.getElem?_cons_succ, List.getElem?_cons_zero]; exact rfl))); go_simp; go_at_call 158; refine (HTX.out _ HEW.out _ _ HC1w.out).mono ?_; rintro e w8 ⟨rfl, hE8⟩; go_wp2_with fail; refine hK.out _ _ ?_ (fun hHeld => ?_); rotate_left; clear hK K; (try simp only [Act.put, List.setIfInBounds_toArray, List.set_cons_zero, List.set_cons_succ]))
    rotate_left
    · exact ⟨hE8.cell hS.1, hE8.cell hS.2⟩
    have hS2 : w8.cell? ⟨w.heap.size, 1, none⟩ = some (.slice qa (toB 1000000000 n1).length qc) ∧ w8.cell? ⟨w.heap.size, 2, none⟩ = some (.slice ra (toB 1000000000 n2).length rc) := ⟨hE8.cell hS.1, hE8.cell hS.2⟩
    replace x0 := hE8.cell x0
    have HE8 := Lib.hid (HEW.out.trans hE8)
    have HC8 := Lib.hid (HC2w.out.ext hE8)
    clear hE8 hS HEW HC1w HC2w
    (refine wpAnyE_one (i := 5) (o := ?_) ?_ (by kernel_rfl) (fun K hK => ?_); rotate_left; (focus ((simp only [List.getElem?_toArray, List.getElem?_cons_succ, List.getElem?_cons_zero]; exact rfl))); go_simp; go_at_call 158; refine (HDX.out _ HE8.out _ _ HC8.out).mono ?_; rintro e w9 ⟨rfl, hE9⟩; go_wp2_with fail; refine hK.out _ _ ?_ (fun hHeld => ?_); rotate_left; clear hK K; (try simp only [Act.put, List.setIfInBounds_toArray, List.set_cons_zero, List.set_cons_succ]))
    rotate_left
    · exact ⟨hE9.cell hS2.1, hE9.cell hS2.2⟩
    replace x0 := hE9.cell x0
    have E := HE8.out.trans hE9
    clear hE9 hS2 HE8 HC8
    ((refine eTk 6 ?_); (refine eTk 7 ?_))
    refine wpAnyE_done (by kernel_rfl) ?_ _
    clear hHeld HTX HDX HDV HO1 HO2 HCT HCB HG1
    by_cases hb1 : 60 < T.length
    · have HE := Lib.hid (HMP.out.2 (.inl hb1))
      rw [decide_eq_true hb1] at HL1
      clear hb1 HMP
      go_wp2_with (first
        | (go_at_call 129; (with_reducible refine (HL1.out _).mono ?_); rintro e w' ⟨rfl, hE⟩; replace x0 := hE.cell x0; replace E := E.trans hE; clear hE)
        | (go_at_call 129; (with_reducible refine (HL2.out _).mono ?_); rintro e w' ⟨rfl, hE⟩; replace x0 := hE.cell x0; replace E := E.trans hE; clear hE))
      go_ret2
      exact ⟨by rw [HE.out.1, HE.out.2]; rfl, E⟩
    by_cases hb2 : 60 < D.length
    · have HE := Lib.hid (HMP.out.2 (.inr hb2))
      rw [decide_eq_false hb1] at HL1
      rw [decide_eq_true hb2] at HL2
      clear hb1 hb2 HMP
      go_wp2_with (first
        | (go_at_call 129; (with_reducible refine (HL1.out _).mono ?_); rintro e w' ⟨rfl, hE⟩; replace x0 := hE.cell x0; replace E := E.trans hE; clear hE)
        | (go_at_call 129; (with_reducible refine (HL2.out _).mono ?_); rintro e w' ⟨rfl, hE⟩; replace x0 := hE.cell x0; replace E := E.trans hE; clear hE))
      go_ret2
      exact ⟨by rw [HE.out.1, HE.out.2]; rfl, E⟩
    have HE := Lib.hid (HMP.out.1 (fun h => h.elim hb1 hb2))
    rw [decide_eq_false hb1] at HL1
    rw [decide_eq_false hb2] at HL2
    clear HMP
    have a1 := app_txt [45] T
    have a2 := app_txt [47] D
    have a3 := app_txt T (47 :: D)
    have a4 := app_txt (45 :: T) (47 :: D)
    have l1 : ¬ 9223372036854775807 < 1 + T.length := by omega
    have l2 : ¬ 9223372036854775807 < 1 + D.length := by omega
    have l3 : ¬ 9223372036854775807 < T.length + (D.length + 1) := by omega
    have l4 : ¬ 9223372036854775807 < T.length + 1 + (D.length + 1) := by omega
    by_cases hD1 : D = [49]
    · have d1 : (D == [49]) = true := by rw [hD1]; rfl
      have HJD := Lib.hid hD1
      clear hD1
      cases s
      · have HJ : Hid (joinT false T D = T) := by show _ = _; unfold joinT; rw [if_pos HJD.out]; simp
        go_wp2_with (first
          | (go_at_call 129; (with_reducible refine (HL1.out _).mono ?_); rintro e w' ⟨rfl, hE⟩; replace x0 := hE.cell x0; replace E := E.trans hE; clear hE)
          | (go_at_call 129; (with_reducible refine (HL2.out _).mono ?_); rintro e w' ⟨rfl, hE⟩; replace x0 := hE.cell x0; replace E := E.trans hE; clear hE))
        go_ret2
        exact ⟨by rw [HE.out.1, HE.out.2, HJ.out]; rfl, E⟩
      · by_cases hT0 : T = [48]
        · have t1 : (T == [48]) = true := by rw [hT0]; rfl
          have HJ : Hid (joinT true T D = T) := by show _ = _; unfold joinT; rw [if_pos HJD.out, hT0]; simp
          clear hT0
          go_wp2_with (first
            | (go_at_call 129; (with_reducible refine (HL1.out _).mono ?_); rintro e w' ⟨rfl, hE⟩; replace x0 := hE.cell x0; replace E := E.trans hE; clear hE)
            | (go_at_call 129; (with_reducible refine (HL2.out _).mono ?_); rintro e w' ⟨rfl, hE⟩; replace x0 := hE.cell x0; replace E := E.trans hE; clear hE))
          go_ret2
          exact ⟨by rw [HE.out.1, HE.out.2, HJ.out]; rfl, E⟩
        · have t1 : (T == [48]) = false := by rw [beq_eq_false_iff_ne]; exact hT0
          have HJ : Hid (joinT true T D = 45 :: T) := by show _ = _; unfold joinT; rw [if_pos HJD.out, decide_eq_true hT0]; simp
          clear hT0
          go_wp2_with (first
            | (go_at_call 129; (with_reducible refine (HL1.out _).mono ?_); rintro e w' ⟨rfl, hE⟩; replace x0 := hE.cell x0; replace E := E.trans hE; clear hE)
            | (go_at_call 129; (with_reducible refine (HL2.out _).mono ?_); rintro e w' ⟨rfl, hE⟩; replace x0 := hE.cell x0; replace E := E.trans hE; clear hE))
          go_ret2
          exact ⟨by rw [HE.out.1, HE.out.2, HJ.out]; rfl, E⟩
    · have d1 : (D == [49]) = false := by rw [beq_eq_false_iff_ne]; exact hD1
      have HJD := Lib.hid hD1
      clear hD1
      cases s
      · have HJ : Hid (joinT false T D = T ++ 47 :: D) := by show _ = _; unfold joinT; rw [if_neg HJD.out]; simp
        go_wp2_with (first
          | (go_at_call 129; (with_reducible refine (HL1.out _).mono ?_); rintro e w' ⟨rfl, hE⟩; replace x0 := hE.cell x0; replace E := E.trans hE; clear hE)
          | (go_at_call 129; (with_reducible refine (HL2.out _).mono ?_); rintro e w' ⟨rfl, hE⟩; replace x0 := hE.cell x0; replace E := E.trans hE; clear hE))
        go_ret2
        exact ⟨by rw [HE.out.1, HE.out.2, HJ.out]; rfl, E⟩
      · by_cases hT0 : T = [48]
        · have t1 : (T == [48]) = true := by rw [hT0]; rfl
          have HJ : Hid (joinT true T D = T ++ 47 :: D) := by show _ = _; unfold joinT; rw [if_neg HJD.out, hT0]; simp
          clear hT0
          go_wp2_with (first
            | (go_at_call 129; (with_reducible refine (HL1.out _).mono ?_); rintro e w' ⟨rfl, hE⟩; replace x0 := hE.cell x0; replace E := E.trans hE; clear hE)
            | (go_at_call 129; (with_reducible refine (HL2.out _).mono ?_); rintro e w' ⟨rfl, hE⟩; replace x0 := hE.cell x0; replace E := E.trans hE; clear hE))
          go_ret2
          exact ⟨by rw [HE.out.1, HE.out.2, HJ.out]; rfl, E⟩
        · have t1 : (T == [48]) = false := by rw [beq_eq_false_iff_ne]; exact hT0
          have HJ : Hid (joinT true T D = (45 :: T) ++ 47 :: D) := by show _ = _; unfold joinT; rw [if_neg HJD.out, decide_eq_true hT0]; simp
          clear hT0
          go_wp2_with (first
            | (go_at_call 129; (with_reducible refine (HL1.out _).mono ?_); rintro e w' ⟨rfl, hE⟩; replace x0 := hE.cell x0; replace E := E.trans hE; clear hE)
            | (go_at_call 129; (with_reducible refine (HL2.out _).mono ?_); rintro e w' ⟨rfl, hE⟩; replace x0 := hE.cell x0; replace E := E.trans hE; clear hE))
          go_ret2
          exact ⟨by rw [HE.out.1, HE.out.2, HJ.out]; rfl, E⟩
end Go.Proofs.YtdejgaiocjfhjaaGreatDoor
namespace Go.Proofs.YtdejgaiocjfhjaaGreatDoor
open Go.RowKit
open Go.Lib (decDigits)
end Go.Proofs.YtdejgaiocjfhjaaGreatDoor
namespace Go.Proofs.YtdejgaiocjfhjaaGreatDoor
open Go.RowKit
open Go.Lib (decDigits)
def ResP (r : Res) (w : World) (e : Ending) (w' : World) : Prop := e = .returned (.tuple #[txt r.1, .int .i64 (r.2 : Nat)]) ∧ Ext w w'
end Go.Proofs.YtdejgaiocjfhjaaGreatDoor
namespace Go.Proofs.YtdejgaiocjfhjaaGreatDoor
open Go.RowKit
set_option maxHeartbeats 4000000 in
set_option maxRecDepth 100000 in
theorem longR_any (x : Nat) (hx : x < 9223372036854775808) (w : World) :
    Calls Tryz.prog 137 #[.int .i64 (x : Int)] w (OwnNPost .i64 3 (toB 1000000 x) w) := by
  obtain ⟨i0, hi, hi0, hi1, hi2⟩ := info_parts infoI64
  have hlen : (toB 1000000 x).length ≤ 4 := toB_len (by omega) 4 (by omega)
  obtain ⟨l, hl⟩ : ∃ l, l = toB 1000000 x := ⟨_, rfl⟩
  rw [← hl] at hlen ⊢
  have HL := Lib.hid hl
  clear hl
  go_enter Tryz.func137, Tryz.ntmps137
  go_wp2
  go_loopw [0, 3] (fun n v wr => ∃ (j m : Nat) (vv : Value), n = .int .i64 (m : Int) ∧ v = vv ∧ m < 9223372036854775808 ∧ Hid (m = x / 1000000 ^ j) ∧ j ≤ l.length ∧ Hid (OwnsN .i64 3 wr vv (l.take j)) ∧ Hid (∀ b, vv.ownBlock = some b → w.heap.size ≤ b) ∧ Ext w wr) (fun n _ _ => (intOf n).toNat)
  case atStart => exact ⟨0, x, _, rfl, rfl, hx, by show _ = _; simp, Nat.zero_le _, OwnsN.nil _ _ _, (fun b hb => by cases hb), Ext.refl _⟩
  case round =>
    obtain ⟨j, m, vv, rfl, hvv, hm, hmx, hj, HO, HN, he⟩ := hrel
    obtain rfl := hvv.symm
    by_cases h0 : m = 0
    · have HF : Hid (l.take j = l) := by
        have h1 : ¬ j < l.length := fun h => by
          rw [HL.out] at h
          exact (len_toB (by omega) j x).1 h (by rw [← hmx.out]; exact h0)
        show _ = _
        exact List.take_of_length_le (by omega)
      subst h0
      clear hmx
      go_wp2
      go_ret
      exact ⟨_, rfl, by rw [HF.out] at HO; exact HO.out, HN.out, he⟩
    · have hjl : j < l.length := by
        rw [HL.out]
        exact (len_toB (by omega) j x).2 (by rw [← hmx.out]; exact h0)
      obtain ⟨r, hr⟩ : ∃ r, r = m % 1000000 := ⟨_, rfl⟩
      obtain ⟨d, hd⟩ : ∃ d, d = m / 1000000 := ⟨_, rfl⟩
      have HR : Hid (l.take (j + 1) = l.take j ++ [r]) := by
        show _ = _
        have e : l.getD j 0 = x / 1000000 ^ j % 1000000 := by rw [HL.out]; exact getD_toB (by omega) j x
        rw [take_last hjl, hr, hmx.out, e]
      have HD : Hid (d = x / 1000000 ^ (j + 1)) := by
        show _ = _
        rw [hd, hmx.out, Nat.div_div_eq_div_mul, Nat.pow_succ]
      have ht1 : (m : Int).tmod 1000000 = (r : Int) := by rw [Int.tmod_eq_emod_of_nonneg (by omega)]; omega
      have ht2 : (m : Int).tdiv 1000000 = (d : Int) := by rw [Int.tdiv_eq_ediv_of_nonneg (by omega)]; omega
      have hw4 : IntKind.i64.wrap (d : Int) = (d : Int) := by rw [IntKind.wrap_i64]; omega
      have hdm : d < m := by omega
      have hm0 : (0 : Int) < (m : Int) := by omega
      have hlt : (l.take j).length ≤ 4 := by rw [List.length_take]; omega
      generalize l.take j = o at HO HR hlt
      clear hr hd hmx h0
      go_wp2_with (at_builtin; refine wpList_append1 _ rfl _ _ 128 rfl 3 i0 (.int .i64 0) 1 8 Tryz.underlying128 hi hi0 hi1 hi2 rfl (by decide) vv o.length (natsV .i64 o) rfl (HO.out.ext ((Ext.refl _).alloc _)) ⟨wr.heap.size, 0, none⟩ 1 1 (by decide) [.int .i64 (r : Int)] rfl rfl (cells_one _ _ _) (by intro u hu; simp at hu; subst hu; rfl) (by unfold maxLen; omega) (by omega) ?_)
      all_goals
        intro v' w5 hown5 hend5
        have OB5 : Hid (∀ b, v'.ownBlock = some b → w.heap.size ≤ b) := hend5.ge (n := w.heap.size) (by have := he.size; simp; omega) HN.out
        have O5 : Hid (OwnsN .i64 3 w5 v' (l.take (j + 1))) := by show OwnsN _ _ _ _ _; rw [HR.out]; exact ownsN_succ hown5
        have B5 : Ext w w5 := (he.trans ((Ext.refl _).alloc _)).trans' (hend5.below (n := w.heap.size) (by have := he.size; simp; omega) HN.out) (Nat.le_refl _)
        clear hown5 hend5 HO
        go_wp2
        refine ⟨⟨j + 1, d, v', by go_num, rfl, by omega, HD, by omega, O5, OB5, B5⟩, by simp [intOf]; omega⟩
end Go.Proofs.YtdejgaiocjfhjaaGreatDoor
namespace Go.Proofs.YtdejgaiocjfhjaaGreatDoor
open Go.RowKit
open Go.Lib (decDigits itoa)
theorem dec_len19 {n : Nat} (h : n ≤ 9223372036854775808) : (decDigits n).length ≤ 19 := (digits_len_le n 19 (by omega)).2 (by omega)
set_option maxHeartbeats 4000000 in
set_option maxRecDepth 100000 in
theorem textI_any (n : Int) (w : World) (h1 : -9223372036854775808 ≤ n) (h2 : n ≤ 9223372036854775807) :
    Calls Tryz.prog 98 #[.int .i64 n] w fun e w' => e = .returned (txt (itoa n)) ∧ Ext w w' := by
  by_cases hn : n < 0
  · have hit : itoa n = 45 :: decDigits n.natAbs := by rw [itoa_eq, if_pos hn]
    obtain ⟨x, hx⟩ : ∃ x : Nat, x = (-(n + 1)).natAbs := ⟨_, rfl⟩
    have hxn : n.natAbs = x + 1 := by omega
    have hw1 : IntKind.i64.wrap (n + 1) = n + 1 := by rw [IntKind.wrap_i64]; omega
    have hw2 : IntKind.i64.wrap (-(n + 1)) = (x : Int) := by rw [IntKind.wrap_i64]; omega
    have hw3 : -(n + 1) = (x : Int) := by omega
    have hw4 : IntKind.i64.wrap (x : Int) = (x : Int) := by rw [IntKind.wrap_i64]; omega
    have hl1 : (toB 1000000 x).length ≤ 100 := Nat.le_trans (toB_len (by omega) 4 (by omega)) (by omega)
    have hl2 : (toB 1000000 (x + 1)).length ≤ 110 := Nat.le_trans (toB_len (by omega) 4 (by omega)) (by omega)
    have HL := Lib.hid (fun W => longR_any x (by omega) W)
    have hdl := dec_len19 (n := x + 1) (by omega)
    have H1 : Hid ([1] = toB 1000000 1) := (toB_one (by omega) (by omega) (by omega)).symm
    have happ := app_txt [45] (decDigits (x + 1))
    have hcat : ¬ 9223372036854775807 < 1 + (decDigits (x + 1)).length := by omega
    have HD := Lib.hid (fun W a c (h : CellsN .i64 W a (toB 1000000 (x + 1))) => digitsR_any (x + 1) _ a c W rfl hl2 h)
    rw [hit, hxn]
    clear hx hxn hit
    generalize decDigits (x + 1) = D at *
    go_enter Tryz.func98, Tryz.ntmps98
    go_wp2_with (go_at_call 137; refine (HL.out _).mono ?_; rintro e w5 ⟨v5, rfl, o5, n5, e5⟩)
    obtain ⟨a5, c5, rfl, oc5, _, _⟩ := o5.reads
    have C5 := Lib.hid (oc5.ext ((Ext.refl w5).alloc (.cells #[.int .i64 (1 : Nat)] 3)))
    clear o5 n5 oc5
    go_wp2_with (go_at_call 136; refine (plusR_any x 1 _ [1] a5 _ c5 1 _ rfl H1.out (by omega) (by simp) C5.out (cells_one' 1 w5)).mono ?_; rintro e w6 ⟨v6, rfl, o6, n6, e6⟩)
    obtain ⟨a6, c6, rfl, oc6, _, _⟩ := o6.reads
    have E6 : Ext w w6 := (e5.trans ((Ext.refl _).alloc _)).trans e6
    have HT := Lib.hid (HD.out w6 a6 c6 oc6)
    clear o6 n6 oc6 e6 e5 C5
    go_wp2_with ((go_at_call 135; (with_reducible refine (HT.out).mono ?_); rintro e w1 ⟨rfl, hE⟩))
    go_ret
    exact ⟨rfl, E6.trans hE⟩
  · have hit : itoa n = decDigits n.natAbs := by rw [itoa_eq, if_neg hn]
    obtain ⟨x, rfl⟩ : ∃ x : Nat, n = (x : Int) := ⟨n.toNat, by omega⟩
    have hl2 : (toB 1000000 x).length ≤ 110 := Nat.le_trans (toB_len (by omega) 4 (by omega)) (by omega)
    have HL := Lib.hid (fun W => longR_any x (by omega) W)
    have HD := Lib.hid (fun W a c (h : CellsN .i64 W a (toB 1000000 x)) => digitsR_any x _ a c W rfl hl2 h)
    rw [hit, Int.natAbs_natCast]
    clear hit
    go_enter Tryz.func98, Tryz.ntmps98
    go_wp2_with (go_at_call 137; refine (HL.out _).mono ?_; rintro e w5 ⟨v5, rfl, o5, n5, e5⟩)
    obtain ⟨a5, c5, rfl, oc5, _, _⟩ := o5.reads
    have HT := Lib.hid (HD.out w5 a5 c5 oc5)
    clear o5 n5 oc5
    go_wp2_with ((go_at_call 135; (with_reducible refine (HT.out).mono ?_); rintro e w1 ⟨rfl, hE⟩))
    go_ret
    exact ⟨rfl, e5.trans hE⟩
set_option maxHeartbeats 4000000 in
theorem wholeR_any (n : Int) (w : World) (h1 : -9223372036854775808 ≤ n) (h2 : n ≤ 9223372036854775807) :
    Calls Tryz.prog 58 #[.int .i64 n] w fun e w' => e = .returned (txt (itoa n)) ∧ Ext w w' := by
  have HT := Lib.hid (fun W => textI_any n W h1 h2)
  go_enter Tryz.func58, Tryz.ntmps58
  go_wp2_with ((go_at_call 98; (with_reducible refine (HT.out _).mono ?_); rintro e w1 ⟨rfl, hE⟩))
  go_ret
  exact ⟨rfl, hE⟩
end Go.Proofs.YtdejgaiocjfhjaaGreatDoor
namespace Go.Proofs.YtdejgaiocjfhjaaGreatDoor
open Go.RowKit
def OpOk (x : Num) (w : World) (e : Ending) (w' : World) : Prop := ∃ z, e = .returned (.tuple #[z, .int .i64 0]) ∧ NumV w' z x ∧ NewN w.heap.size z ∧ Ext w w'
set_option maxHeartbeats 8000000 in
set_option maxRecDepth 100000 in
theorem op0_any (x y : Num) (v u : Value) (w : World) (hv : NumV w v x) (hu : NumV w u y) (hx : LenN 40 x) (hy : LenN 40 y) :
    Calls Tryz.prog 153 #[v, u] w (OpOk (sumN x y) w) := by
  have HV := Lib.hid hv
  have HU := Lib.hid hu
  have HLX := Lib.hid hx
  have HLY := Lib.hid hy
  obtain ⟨ta, tc, ba, bc, rfl, h1, h2⟩ := hv
  obtain ⟨ua, uc, va, vc, rfl, h3, h4⟩ := hu
  obtain ⟨s, t, d⟩ := x
  obtain ⟨r, p, q⟩ := y
  obtain ⟨l1, l2⟩ := hx
  obtain ⟨l3, l4⟩ := hy
  dsimp only at h1 h2 h3 h4 l1 l2 l3 l4 ⊢
  have HS := Lib.hid (fun W (hW : Ext w W) => sum_any (s, t, d) (r, p, q) _ _ W (HV.out.ext hW) (HU.out.ext hW) HLX.out HLY.out)
  generalize sumN (s, t, d) (r, p, q) = SN at *
  clear h1 h2 h3 h4
  have E : Ext w (((w.alloc (.cells #[.bool s, (.slice ta (toB 1000000000 t).length tc), (.slice ba (toB 1000000000 d).length bc)] 116)).alloc (.cells #[.bool r, (.slice ua (toB 1000000000 p).length uc), (.slice va (toB 1000000000 q).length vc)] 116)).alloc (.cells #[.bool false, .slice none 0 0, .slice none 0 0] 116)) := extA
  have A : Num3 w.heap.size (((w.alloc (.cells #[.bool s, (.slice ta (toB 1000000000 t).length tc), (.slice ba (toB 1000000000 d).length bc)] 116)).alloc (.cells #[.bool r, (.slice ua (toB 1000000000 p).length uc), (.slice va (toB 1000000000 q).length vc)] 116)).alloc (.cells #[.bool false, .slice none 0 0, .slice none 0 0] 116)) (.bool s) (.slice ta (toB 1000000000 t).length tc) (.slice ba (toB 1000000000 d).length bc) := ⟨by go_simp, by go_simp, by go_simp, by go_simp, by go_simp, by go_simp⟩
  have B : Num3 (w.heap.size + 1) (((w.alloc (.cells #[.bool s, (.slice ta (toB 1000000000 t).length tc), (.slice ba (toB 1000000000 d).length bc)] 116)).alloc (.cells #[.bool r, (.slice ua (toB 1000000000 p).length uc), (.slice va (toB 1000000000 q).length vc)] 116)).alloc (.cells #[.bool false, .slice none 0 0, .slice none 0 0] 116)) (.bool r) (.slice ua (toB 1000000000 p).length uc) (.slice va (toB 1000000000 q).length vc) := ⟨by go_simp, by go_simp, by go_simp, by go_simp, by go_simp, by go_simp⟩
  have R : Num3 (w.heap.size + 1 + 1) (((w.alloc (.cells #[.bool s, (.slice ta (toB 1000000000 t).length tc), (.slice ba (toB 1000000000 d).length bc)] 116)).alloc (.cells #[.bool r, (.slice ua (toB 1000000000 p).length uc), (.slice va (toB 1000000000 q).length vc)] 116)).alloc (.cells #[.bool false, .slice none 0 0, .slice none 0 0] 116)) (.bool false) (.slice none 0 0) (.slice none 0 0) := ⟨by go_simp, by go_simp, by go_simp, by go_simp, by go_simp, by go_simp⟩
  go_enter Tryz.func153, Tryz.ntmps153
  go_wp2_with fail
  generalize (((w.alloc (.cells #[.bool s, (.slice ta (toB 1000000000 t).length tc), (.slice ba (toB 1000000000 d).length bc)] 116)).alloc (.cells #[.bool r, (.slice ua (toB 1000000000 p).length uc), (.slice va (toB 1000000000 q).length vc)] 116)).alloc (.cells #[.bool false, .slice none 0 0, .slice none 0 0] 116)) = W at E A B R ⊢
  refine (HS.out _ E).mono ?_
  rintro e w4 ⟨z, rfl, hz, hn, hE⟩
  have hz0 : w.heap.size + 1 + 1 < W.heap.size := cell_lt R.c0
  replace R := R.ext hE
  replace E := E.trans hE
  clear hE
  obtain ⟨za, zc, ya, yc, rfl, k1, k2⟩ := hz
  have HZ := Lib.hid (NumV.set (c := w.heap.size + 1 + 1) (o := 2) (u := .slice ya (toB 1000000000 SN.2.2).length yc) (NumV.set (c := w.heap.size + 1 + 1) (o := 1) (u := .slice za (toB 1000000000 SN.2.1).length zc) (NumV.set (c := w.heap.size + 1 + 1) (o := 0) (u := .bool SN.1) ⟨za, zc, ya, yc, rfl, k1, k2⟩ hn hz0) hn hz0) hn hz0)
  obtain ⟨c0, c1, c2, f0, f1, f2⟩ := R
  have HNN := Lib.hid (hn _ _ _ _ _ _ _ rfl)
  clear k1 k2 hn A B
  go_wp2_with fail
  refine bodyPost_ret (v := .tuple #[.agg #[.bool SN.1, .slice za (toB 1000000000 SN.2.1).length zc, .slice ya (toB 1000000000 SN.2.2).length yc], .int .i64 0]) (by rw [results_cell_tmp1 rfl]; go_simp) rfl ?_
  exact ⟨_, rfl, HZ.out, newN_mk (fun hl z hz => by have := (HNN.out.1 hl z hz); omega) (fun hl z hz => by have := (HNN.out.2 hl z hz); omega), extA⟩
end Go.Proofs.YtdejgaiocjfhjaaGreatDoor
namespace Go.Proofs.YtdejgaiocjfhjaaGreatDoor
open Go.RowKit
theorem operations_any (w : World) :
    Calls Tryz.prog 125 #[] w fun e w' => e = .returned (.agg #[.func (.func 153) #[] #[], .func (.func 154) #[] #[], .func (.func 155) #[] #[], .func (.func 156) #[] #[]]) ∧ Ext w w' := by
  go_enter Tryz.func125, Tryz.ntmps125
  go_wp2_with fail
  trace_state
  refine bodyPost_ret (v := .agg #[.func (.func 153) #[] #[], .func (.func 154) #[] #[], .func (.func 155) #[] #[], .func (.func 156) #[] #[]]) (by rw [results_cell1 rfl]; go_simp) rfl ?_
  exact ⟨rfl, extA⟩
end Go.Proofs.YtdejgaiocjfhjaaGreatDoor
namespace Go.Proofs.YtdejgaiocjfhjaaGreatDoor
open Go.RowKit
theorem numOf_len {a : Txt} (h : fracE a = 0) : LenN 40 (numOf a) ∧ (numOf a).2.2 ≠ 0 := by
  obtain ⟨h1, h2, h3, h4, h5, _⟩ := frac_parts h
  have lim : ∀ n, n < 10 ^ 60 → (toB 1000000000 n).length ≤ 40 := fun n hn => toB_len (by omega) 40 (by omega)
  refine ⟨⟨?_, lim _ h5⟩, by show decV (lowS a) ≠ 0; omega⟩
  have e := intV_abs (topS a)
  exact lim _ (by show decV (bareS (topS a)) < _; rw [← e]; exact h2)
theorem lt_len {z k : Nat} (h : (toB 1000000000 z).length ≤ k) : z < 1000000000 ^ k := by
  have h1 := valB_lt (okB_toB (B := 1000000000) (by omega) z)
  rw [valB_toB (by omega)] at h1
  exact Nat.lt_of_lt_of_le h1 (Nat.pow_le_pow_right (by omega) h)
theorem sumN_len {x y : Num} (hx : LenN 40 x) (hy : LenN 40 y) : LenN 90 (sumN x y) := by
  obtain ⟨s, t, d⟩ := x
  obtain ⟨r, p, q⟩ := y
  have h1 := lt_len (mul_len hx.1 hy.2)
  have h2 := lt_len (mul_len hy.1 hx.2)
  have h3 := lt_len (mul_len hx.2 hy.2)
  have e : (1000000000 : Nat) ^ (40 + 40) * 2 ≤ 1000000000 ^ 90 := by
    have : (1000000000 : Nat) ^ 90 = 1000000000 ^ (40 + 40) * 1000000000 ^ 10 := by rw [← Nat.pow_add]
    rw [this]
    exact Nat.mul_le_mul_left _ (by omega)
  dsimp only at h1 h2 h3
  unfold sumN LenN
  dsimp only
  split
  · exact ⟨toB_len (by omega) 90 (by dsimp only; omega), toB_len (by omega) 90 (by dsimp only; omega)⟩
  · split
    · exact ⟨toB_len (by omega) 90 (by dsimp only; omega), toB_len (by omega) 90 (by dsimp only; omega)⟩
    · exact ⟨toB_len (by omega) 90 (by dsimp only; omega), toB_len (by omega) 90 (by dsimp only; omega)⟩
def ResPost (r : Res) (w : World) (e : Ending) (w' : World) : Prop := e = .returned (.tuple #[txt r.1, .int .i64 (r.2 : Nat)]) ∧ Ext w w'
theorem bothE_zero {a b : Txt} (ha : fracE a = 0) (hb : fracE b = 0) : bothE a b = 0 := by unfold bothE; rw [if_pos ha, hb]
theorem bothE_left {a b : Txt} (ha : fracE a ≠ 0) : bothE a b = fracE a := by unfold bothE; rw [if_neg ha]
theorem bothE_right {a b : Txt} (ha : fracE a = 0) : bothE a b = fracE b := by unfold bothE; rw [if_pos ha]
theorem add_res {a b : Txt} : (fracE a ≠ 0 → addS a b = ([], fracE a)) ∧ (fracE a = 0 → fracE b ≠ 0 → addS a b = ([], fracE b)) ∧ (fracE a = 0 → fracE b = 0 → addS a b = resQ (fracQ a + fracQ b)) := by
  unfold addS ifOk badR
  refine ⟨fun h => ?_, fun h k => ?_, fun h k => ?_⟩
  · rw [bothE_left h, if_neg h]
  · rw [bothE_right h, if_neg k]
  · rw [bothE_zero h k, if_pos rfl]
theorem op_index0 (W : World) : (Instr.index 152 (.agg #[.func (.func 153) #[] #[], .func (.func 154) #[] #[], .func (.func 155) #[] #[], .func (.func 156) #[] #[]]) (.int .i64 0)).run Tryz.prog W = .ok (.agg #[.func (.func 153) #[] #[]]) W := by
  simp [Instr.index, go_sem]
theorem op_field (W : World) (f : Nat) : (Instr.field 151 (.agg #[.func (.func f) #[] #[]]) 0).run Tryz.prog W = .ok (.func (.func f) #[] #[]) W := by
  simp [Instr.field, asAgg, go_sem]
end Go.Proofs.YtdejgaiocjfhjaaGreatDoor
namespace Go.Proofs.YtdejgaiocjfhjaaGreatDoor
open Go.RowKit
open Go.Lib (decDigits itoa)
end Go.Proofs.YtdejgaiocjfhjaaGreatDoor
namespace Go.Proofs.YtdejgaiocjfhjaaGreatDoor
open Go.RowKit
set_option maxHeartbeats 16000000 in
set_option maxRecDepth 100000 in
theorem computed0_any (a b : Txt) (w : World) (hG : Glob w) (ha : a.length ≤ 400) (hb : b.length ≤ 400) :
    Calls Tryz.prog 92 #[.int .i64 0, txt a, txt b] w (ResPost (addS a b) w) := by
  have HG := Lib.hid hG
  have HPA := Lib.hid (fun W (hW : Ext w W) => parsed_any a W (hG.ext hW) ha)
  have HPB := Lib.hid (fun W (hW : Ext w W) => parsed_any b W (hG.ext hW) hb)
  have HRES := Lib.hid (@add_res a b)
  clear hG
  go_enter Tryz.func92, Tryz.ntmps92
  go_wp2_with fail
  refine (HPA.out _ (Ext.refl _)).mono ?_
  rintro e w1 ⟨v1, rfl, ⟨s1, ta, tn, tc, ba, bn, bc, rfl⟩, hn1, hE⟩
  have HN1 := Lib.hid hn1
  clear hn1 HPA
  by_cases ea : fracE a = 0
  rotate_left
  · have HR := Lib.hid (HRES.out.1 ea)
    have hne : (((fracE a : Nat) : Int) != 0) = true := by rw [bne_iff_ne]; omega
    clear HN1 HPB HRES
    generalize fracE a = n at *
    go_wp2_with fail
    go_ret2
    exact ⟨by rw [HR.out]; rfl, extA⟩
  have HNA := Lib.hid (HN1.out ea)
  rw [ea]
  have HEA := Lib.hid ea
  clear ea HN1
  have EV : Ext w1 (w1.alloc (.cells #[.bool s1, .slice ta tn tc, .slice ba bn bc] 116)) := extA
  have X : Num3 w1.heap.size (w1.alloc (.cells #[.bool s1, .slice ta tn tc, .slice ba bn bc] 116)) (.bool s1) (.slice ta tn tc) (.slice ba bn bc) := ⟨by go_simp, by go_simp, by go_simp, by go_simp, by go_simp, by go_simp⟩
  have E := hE.trans EV
  replace HNA := Lib.hid (HNA.out.ext EV)
  clear EV hE
  go_wp2_with fail
  obtain ⟨xb, hxb⟩ : ∃ xb, xb = w1.heap.size := ⟨_, rfl⟩
  rw [← hxb] at X ⊢
  clear hxb
  generalize (w1.alloc (.cells #[.bool s1, .slice ta tn tc, .slice ba bn bc] 116)) = W1 at X E HNA ⊢
  refine (HPB.out _ E).mono ?_
  rintro e w3 ⟨v2, rfl, ⟨s2, ua, un, uc, va, vn, vc, rfl⟩, hn2, hE⟩
  replace X := X.ext hE
  replace E := E.trans hE
  replace HNA := Lib.hid (HNA.out.ext hE)
  have HN2 := Lib.hid hn2
  clear hn2 HPB hE
  by_cases eb : fracE b = 0
  rotate_left
  · have HR := Lib.hid (HRES.out.2.1 HEA.out eb)
    have hne : (((fracE b : Nat) : Int) != 0) = true := by rw [bne_iff_ne]; omega
    clear HN2 HRES HEA
    generalize fracE b = n at *
    go_wp2_with fail
    go_ret2
    exact ⟨by rw [HR.out]; rfl, extA⟩
  have HNB := Lib.hid (HN2.out eb)
  rw [eb]
  have HEB := Lib.hid eb
  clear eb HN2
  have EV : Ext w3 (w3.alloc (.cells #[.bool s2, .slice ua un uc, .slice va vn vc] 116)) := extA
  have Y : Num3 w3.heap.size (w3.alloc (.cells #[.bool s2, .slice ua un uc, .slice va vn vc] 116)) (.bool s2) (.slice ua un uc) (.slice va vn vc) := ⟨by go_simp, by go_simp, by go_simp, by go_simp, by go_simp, by go_simp⟩
  replace X := X.ext EV
  replace E := E.trans EV
  replace HNA := Lib.hid (HNA.out.ext EV)
  replace HNB := Lib.hid (HNB.out.ext EV)
  clear EV
  go_wp2_with fail
  obtain ⟨yb, hyb⟩ : ∃ yb, yb = w3.heap.size := ⟨_, rfl⟩
  rw [← hyb] at Y ⊢
  clear hyb
  generalize (w3.alloc (.cells #[.bool s2, .slice ua un uc, .slice va vn vc] 116)) = W3 at X Y E HNA HNB ⊢
  have hix := op_index0
  have hfi := op_field
  have hxa := (numOf_len HEA.out).1
  have hyb := (numOf_len HEB.out).1
  go_cut [11, 9] (fun n ev wx => ∃ nb z0 z1 zn zc z2 zm zd, n = .pointer (some ⟨nb, 0, none⟩) ∧ ev = .int .i64 0 ∧ Hid (Num3 nb wx (.bool z0) (.slice z1 zn zc) (.slice z2 zm zd)) ∧ Hid (NumV wx (.agg #[.bool z0, .slice z1 zn zc, .slice z2 zm zd]) (sumN (numOf a) (numOf b))) ∧ Ext w wx)
  case first =>
    have hdr : Ext W3 W3.drew := extA
    replace X := X.ext hdr
    replace Y := Y.ext hdr
    replace E := E.trans hdr
    replace HNA := Lib.hid (HNA.out.ext hdr)
    replace HNB := Lib.hid (HNB.out.ext hdr)
    have hS : W3.drew.cell? ⟨xb, 0, none⟩ = some (.bool s1) ∧ W3.drew.cell? ⟨xb, 1, none⟩ = some (.slice ta tn tc) ∧ W3.drew.cell? ⟨xb, 2, none⟩ = some (.slice ba bn bc) ∧ W3.drew.cell? ⟨yb, 0, none⟩ = some (.bool s2) ∧ W3.drew.cell? ⟨yb, 1, none⟩ = some (.slice ua un uc) ∧ W3.drew.cell? ⟨yb, 2, none⟩ = some (.slice va vn vc) := ⟨X.c0, X.c1, X.c2, Y.c0, Y.c1, Y.c2⟩
    refine wp_region_heldE 11 (fun w' => w'.cell? ⟨xb, 0, none⟩ = some (.bool s1) ∧ w'.cell? ⟨xb, 1, none⟩ = some (.slice ta tn tc) ∧ w'.cell? ⟨xb, 2, none⟩ = some (.slice ba bn bc) ∧ w'.cell? ⟨yb, 0, none⟩ = some (.bool s2) ∧ w'.cell? ⟨yb, 1, none⟩ = some (.slice ua un uc) ∧ w'.cell? ⟨yb, 2, none⟩ = some (.slice va vn vc)) (by kernel_rfl) ?_
    clear hdr X Y
    generalize W3.drew = W4 at E HNA HNB hS ⊢
    ((refine eTk 1 ?_); (refine eTk 4 ?_); (refine eTk 5 ?_))
    refine wpAnyE_two (i := 0) (j := 10) (o := ?_) (p := ?_) ?_ ?_ (by kernel_rfl) (fun K hK => ?_) (fun K hK => ?_)
    rotate_left 2
    · simp only [List.getElem?_toArray, List.getElem?_cons_zero]; exact rfl
    · simp only [List.getElem?_toArray, List.getElem?_cons_succ, List.getElem?_cons_zero]; exact rfl
    · go_simp
      go_at_call 125
      refine (operations_any _).mono ?_
      rintro e w5 ⟨rfl, hE⟩
      go_wp2_with fail
      have hS5 : w5.cell? ⟨xb, 0, none⟩ = some (.bool s1) ∧ w5.cell? ⟨xb, 1, none⟩ = some (.slice ta tn tc) ∧ w5.cell? ⟨xb, 2, none⟩ = some (.slice ba bn bc) ∧ w5.cell? ⟨yb, 0, none⟩ = some (.bool s2) ∧ w5.cell? ⟨yb, 1, none⟩ = some (.slice ua un uc) ∧ w5.cell? ⟨yb, 2, none⟩ = some (.slice va vn vc) := ⟨hE.cell hS.1, hE.cell hS.2.1, hE.cell hS.2.2.1, hE.cell hS.2.2.2.1, hE.cell hS.2.2.2.2.1, hE.cell hS.2.2.2.2.2⟩
      refine hK.out _ _ hS5 (fun hHeld => ?_)
      clear hK K hHeld
      (try simp only [Act.put, List.setIfInBounds_toArray, List.set_cons_zero, List.set_cons_succ])
      replace E := E.trans hE
      replace HNA := Lib.hid (HNA.out.ext hE)
      replace HNB := Lib.hid (HNB.out.ext hE)
      clear hE hS
      ((refine eTk 2 ?_); (refine eTk 3 ?_))
      refine wpAnyE_two (i := 6) (j := 10) (o := ?_) (p := ?_) ?_ ?_ (by kernel_rfl) (fun K hK => ?_) (fun K hK => ?_)
      rotate_left 2
      · simp only [List.getElem?_toArray, List.getElem?_cons_succ, List.getElem?_cons_zero]; exact rfl
      · simp only [List.getElem?_toArray, List.getElem?_cons_succ, List.getElem?_cons_zero]; exact rfl
      · go_simp
        go_at_call 153
        refine (op0_any (numOf a) (numOf b) _ _ _ HNA.out HNB.out hxa hyb).mono ?_; rintro e w6 ⟨z, rfl, hz, hzn, hE⟩; obtain ⟨z1, zc, z2, zd, rfl, k1, k2⟩ := hz
        go_wp2_with fail
        have hS6 : w6.cell? ⟨xb, 0, none⟩ = some (.bool s1) ∧ w6.cell? ⟨xb, 1, none⟩ = some (.slice ta tn tc) ∧ w6.cell? ⟨xb, 2, none⟩ = some (.slice ba bn bc) ∧ w6.cell? ⟨yb, 0, none⟩ = some (.bool s2) ∧ w6.cell? ⟨yb, 1, none⟩ = some (.slice ua un uc) ∧ w6.cell? ⟨yb, 2, none⟩ = some (.slice va vn vc) := ⟨hE.cell hS5.1, hE.cell hS5.2.1, hE.cell hS5.2.2.1, hE.cell hS5.2.2.2.1, hE.cell hS5.2.2.2.2.1, hE.cell hS5.2.2.2.2.2⟩
        refine hK.out _ _ hS6 (fun hHeld => ?_)
        clear hK K hHeld hS5
        (try simp only [Act.put, List.setIfInBounds_toArray, List.set_cons_zero, List.set_cons_succ])
        ((refine ePu 7 ?_); (refine ePu 8 ?_); (refine ePu 9 ?_))
        have EA : Ext w6 (w6.alloc (.cells #[.bool false, .slice none 0 0, .slice none 0 0] 116)) := extA
        have N : Num3 w6.heap.size (w6.alloc (.cells #[.bool false, .slice none 0 0, .slice none 0 0] 116)) (.bool false) (.slice none 0 0) (.slice none 0 0) := ⟨by go_simp, by go_simp, by go_simp, by go_simp, by go_simp, by go_simp⟩
        (refine wpAnyE_one (i := 10) (o := ?_) ?_ (by kernel_rfl) (fun K hK => ?_); rotate_left; (focus ((simp only [List.getElem?_toArray, List.getElem?_cons_succ, List.getElem?_cons_zero]; exact rfl))); go_simp; refine hK.out _ _ ?_ (fun hHeld => ?_); rotate_left; clear hK K; (try simp only [Act.put, List.setIfInBounds_toArray, List.set_cons_zero, List.set_cons_succ]))
        rotate_left
        · exact ⟨EA.cell hS6.1, EA.cell hS6.2.1, EA.cell hS6.2.2.1, EA.cell hS6.2.2.2.1, EA.cell hS6.2.2.2.2.1, EA.cell hS6.2.2.2.2.2⟩
        obtain ⟨nb, hnb⟩ : ∃ nb, nb = w6.heap.size := ⟨_, rfl⟩
        rw [← hnb] at N ⊢
        have hnw : w6.heap.size ≤ nb := by omega
        have hww : w.heap.size ≤ nb := by have := (E.trans hE).size; omega
        have E6 := (E.trans hE).trans EA
        have HEA := Lib.hid EA
        clear EA hS6 hHeld hnb E hE
        generalize (w6.alloc (.cells #[.bool false, .slice none 0 0, .slice none 0 0] 116)) = W7 at N HEA E6 ⊢
        have HN := Lib.hid N
        obtain ⟨x0, x1, x2, g0, g1, g2⟩ := N
        (refine wpAnyE_free (i := 11) (o := ?_) ?_ (by kernel_rfl) (by kernel_rfl) (fun K hK => ?_); rotate_left; (focus ((simp only [List.getElem?_toArray, List.getElem?_cons_succ, List.getElem?_cons_zero]; exact rfl))); go_simp; refine hK.out _ _ ?_; clear hK K; (try simp only [Act.put, List.setIfInBounds_toArray, List.set_cons_zero, List.set_cons_succ]))
        ((refine ePu 12 ?_))
        refine wpAnyE_done (by kernel_rfl) ?_ _
        go_wp2_with fail
        go_meet
        refine ⟨nb, _, _, _, _, _, _, _, rfl, rfl, ((HN.out.set0 _).set1 _).set2 _, ?_, extA⟩
        exact NumV.ext ⟨z1, zc, z2, zd, rfl, k1, k2⟩ (((HEA.out.set hnw _).set hnw _).set hnw _)
      · go_simp
        have EA : Ext w5 (w5.alloc (.cells #[.bool false, .slice none 0 0, .slice none 0 0] 116)) := extA
        have N : Num3 w5.heap.size (w5.alloc (.cells #[.bool false, .slice none 0 0, .slice none 0 0] 116)) (.bool false) (.slice none 0 0) (.slice none 0 0) := ⟨by go_simp, by go_simp, by go_simp, by go_simp, by go_simp, by go_simp⟩
        have hSA : (w5.alloc (.cells #[.bool false, .slice none 0 0, .slice none 0 0] 116)).cell? ⟨xb, 0, none⟩ = some (.bool s1) ∧ (w5.alloc (.cells #[.bool false, .slice none 0 0, .slice none 0 0] 116)).cell? ⟨xb, 1, none⟩ = some (.slice ta tn tc) ∧ (w5.alloc (.cells #[.bool false, .slice none 0 0, .slice none 0 0] 116)).cell? ⟨xb, 2, none⟩ = some (.slice ba bn bc) ∧ (w5.alloc (.cells #[.bool false, .slice none 0 0, .slice none 0 0] 116)).cell? ⟨yb, 0, none⟩ = some (.bool s2) ∧ (w5.alloc (.cells #[.bool false, .slice none 0 0, .slice none 0 0] 116)).cell? ⟨yb, 1, none⟩ = some (.slice ua un uc) ∧ (w5.alloc (.cells #[.bool false, .slice none 0 0, .slice none 0 0] 116)).cell? ⟨yb, 2, none⟩ = some (.slice va vn vc) := ⟨EA.cell hS5.1, EA.cell hS5.2.1, EA.cell hS5.2.2.1, EA.cell hS5.2.2.2.1, EA.cell hS5.2.2.2.2.1, EA.cell hS5.2.2.2.2.2⟩
        refine hK.out _ _ hSA (fun hHeld => ?_)
        clear hK K hHeld hS5
        (try simp only [Act.put, List.setIfInBounds_toArray, List.set_cons_zero, List.set_cons_succ])
        obtain ⟨nb, hnb⟩ : ∃ nb, nb = w5.heap.size := ⟨_, rfl⟩
        rw [← hnb] at N ⊢
        have hww : w.heap.size ≤ nb := by have := E.size; omega
        replace E := E.trans EA
        replace HNA := Lib.hid (HNA.out.ext EA)
        replace HNB := Lib.hid (HNB.out.ext EA)
        clear EA hnb
        generalize (w5.alloc (.cells #[.bool false, .slice none 0 0, .slice none 0 0] 116)) = w5 at N hSA E HNA HNB ⊢
        (refine wpAnyE_one (i := 6) (o := ?_) ?_ (by kernel_rfl) (fun K hK => ?_); rotate_left; (focus ((simp only [List.getElem?_toArray, List.getElem?_cons_succ, List.getElem?_cons_zero]; exact rfl))); go_simp; go_at_call 153; refine (op0_any (numOf a) (numOf b) _ _ _ HNA.out HNB.out hxa hyb).mono ?_; rintro e w6 ⟨z, rfl, hz, hzn, hE⟩; obtain ⟨z1, zc, z2, zd, rfl, k1, k2⟩ := hz; go_wp2_with fail; refine hK.out _ _ ?_ (fun hHeld => ?_); rotate_left; clear hK K; (try simp only [Act.put, List.setIfInBounds_toArray, List.set_cons_zero, List.set_cons_succ]))
        rotate_left
        · exact ⟨hE.cell hSA.1, hE.cell hSA.2.1, hE.cell hSA.2.2.1, hE.cell hSA.2.2.2.1, hE.cell hSA.2.2.2.2.1, hE.cell hSA.2.2.2.2.2⟩
        have N6 := N.ext hE
        have hnl : nb < w5.heap.size := cell_lt N.c0
        have E6 := E.trans hE
        clear hSA N E hE
        ((refine ePu 7 ?_); (refine ePu 8 ?_); (refine ePu 9 ?_))
        clear hHeld
        have HN := Lib.hid N6
        obtain ⟨x0, x1, x2, g0, g1, g2⟩ := N6
        (refine wpAnyE_free (i := 11) (o := ?_) ?_ (by kernel_rfl) (by kernel_rfl) (fun K hK => ?_); rotate_left; (focus ((simp only [List.getElem?_toArray, List.getElem?_cons_succ, List.getElem?_cons_zero]; exact rfl))); go_simp; refine hK.out _ _ ?_; clear hK K; (try simp only [Act.put, List.setIfInBounds_toArray, List.set_cons_zero, List.set_cons_succ]))
        ((refine ePu 12 ?_))
        refine wpAnyE_done (by kernel_rfl) ?_ _
        go_wp2_with fail
        go_meet
        refine ⟨nb, _, _, _, _, _, _, _, rfl, rfl, ((HN.out.set0 _).set1 _).set2 _, ?_, extA⟩
        exact NumV.set (NumV.set (NumV.set ⟨z1, zc, z2, zd, rfl, k1, k2⟩ hzn hnl) hzn hnl) hzn hnl
    · go_simp
      have EA : Ext W4 (W4.alloc (.cells #[.bool false, .slice none 0 0, .slice none 0 0] 116)) := extA
      have N : Num3 W4.heap.size (W4.alloc (.cells #[.bool false, .slice none 0 0, .slice none 0 0] 116)) (.bool false) (.slice none 0 0) (.slice none 0 0) := ⟨by go_simp, by go_simp, by go_simp, by go_simp, by go_simp, by go_simp⟩
      have hSA : (W4.alloc (.cells #[.bool false, .slice none 0 0, .slice none 0 0] 116)).cell? ⟨xb, 0, none⟩ = some (.bool s1) ∧ (W4.alloc (.cells #[.bool false, .slice none 0 0, .slice none 0 0] 116)).cell? ⟨xb, 1, none⟩ = some (.slice ta tn tc) ∧ (W4.alloc (.cells #[.bool false, .slice none 0 0, .slice none 0 0] 116)).cell? ⟨xb, 2, none⟩ = some (.slice ba bn bc) ∧ (W4.alloc (.cells #[.bool false, .slice none 0 0, .slice none 0 0] 116)).cell? ⟨yb, 0, none⟩ = some (.bool s2) ∧ (W4.alloc (.cells #[.bool false, .slice none 0 0, .slice none 0 0] 116)).cell? ⟨yb, 1, none⟩ = some (.slice ua un uc) ∧ (W4.alloc (.cells #[.bool false, .slice none 0 0, .slice none 0 0] 116)).cell? ⟨yb, 2, none⟩ = some (.slice va vn vc) := ⟨EA.cell hS.1, EA.cell hS.2.1, EA.cell hS.2.2.1, EA.cell hS.2.2.2.1, EA.cell hS.2.2.2.2.1, EA.cell hS.2.2.2.2.2⟩
      refine hK.out _ _ hSA (fun hHeld => ?_)
      clear hK K hHeld hS
      (try simp only [Act.put, List.setIfInBounds_toArray, List.set_cons_zero, List.set_cons_succ])
      obtain ⟨nb, hnb⟩ : ∃ nb, nb = W4.heap.size := ⟨_, rfl⟩
      rw [← hnb] at N ⊢
      have hww : w.heap.size ≤ nb := by have := E.size; omega
      replace E := E.trans EA
      replace HNA := Lib.hid (HNA.out.ext EA)
      replace HNB := Lib.hid (HNB.out.ext EA)
      clear EA hnb
      generalize (W4.alloc (.cells #[.bool false, .slice none 0 0, .slice none 0 0] 116)) = W5 at N hSA E HNA HNB ⊢
      (refine wpAnyE_one (i := 0) (o := ?_) ?_ (by kernel_rfl) (fun K hK => ?_); rotate_left; (focus ((simp only [List.getElem?_toArray, List.getElem?_cons_zero]; exact rfl))); go_simp; go_at_call 125; refine (operations_any _).mono ?_; rintro e w5 ⟨rfl, hE⟩; go_wp2_with fail; refine hK.out _ _ ?_ (fun hHeld => ?_); rotate_left; clear hK K; (try simp only [Act.put, List.setIfInBounds_toArray, List.set_cons_zero, List.set_cons_succ]))
      rotate_left
      · exact ⟨hE.cell hSA.1, hE.cell hSA.2.1, hE.cell hSA.2.2.1, hE.cell hSA.2.2.2.1, hE.cell hSA.2.2.2.2.1, hE.cell hSA.2.2.2.2.2⟩
      replace hSA : w5.cell? ⟨xb, 0, none⟩ = some (.bool s1) ∧ w5.cell? ⟨xb, 1, none⟩ = some (.slice ta tn tc) ∧ w5.cell? ⟨xb, 2, none⟩ = some (.slice ba bn bc) ∧ w5.cell? ⟨yb, 0, none⟩ = some (.bool s2) ∧ w5.cell? ⟨yb, 1, none⟩ = some (.slice ua un uc) ∧ w5.cell? ⟨yb, 2, none⟩ = some (.slice va vn vc) := ⟨hE.cell hSA.1, hE.cell hSA.2.1, hE.cell hSA.2.2.1, hE.cell hSA.2.2.2.1, hE.cell hSA.2.2.2.2.1, hE.cell hSA.2.2.2.2.2⟩
      replace N := N.ext hE
      replace E := E.trans hE
      replace HNA := Lib.hid (HNA.out.ext hE)
      replace HNB := Lib.hid (HNB.out.ext hE)
      clear hE hHeld
      ((refine eTk 2 ?_); (refine eTk 3 ?_))
      (refine wpAnyE_one (i := 6) (o := ?_) ?_ (by kernel_rfl) (fun K hK => ?_); rotate_left; (focus ((simp only [List.getElem?_toArray, List.getElem?_cons_succ, List.getElem?_cons_zero]; exact rfl))); go_simp; go_at_call 153; refine (op0_any (numOf a) (numOf b) _ _ _ HNA.out HNB.out hxa hyb).mono ?_; rintro e w6 ⟨z, rfl, hz, hzn, hE⟩; obtain ⟨z1, zc, z2, zd, rfl, k1, k2⟩ := hz; go_wp2_with fail; refine hK.out _ _ ?_ (fun hHeld => ?_); rotate_left; clear hK K; (try simp only [Act.put, List.setIfInBounds_toArray, List.set_cons_zero, List.set_cons_succ]))
      rotate_left
      · exact ⟨hE.cell hSA.1, hE.cell hSA.2.1, hE.cell hSA.2.2.1, hE.cell hSA.2.2.2.1, hE.cell hSA.2.2.2.2.1, hE.cell hSA.2.2.2.2.2⟩
      have N6 := N.ext hE
      have hnl : nb < w5.heap.size := cell_lt N.c0
      have E6 := E.trans hE
      clear hSA N E hE
      ((refine ePu 7 ?_); (refine ePu 8 ?_); (refine ePu 9 ?_))
      clear hHeld
      have HN := Lib.hid N6
      obtain ⟨x0, x1, x2, g0, g1, g2⟩ := N6
      (refine wpAnyE_free (i := 11) (o := ?_) ?_ (by kernel_rfl) (by kernel_rfl) (fun K hK => ?_); rotate_left; (focus ((simp only [List.getElem?_toArray, List.getElem?_cons_succ, List.getElem?_cons_zero]; exact rfl))); go_simp; refine hK.out _ _ ?_; clear hK K; (try simp only [Act.put, List.setIfInBounds_toArray, List.set_cons_zero, List.set_cons_succ]))
      ((refine ePu 12 ?_))
      refine wpAnyE_done (by kernel_rfl) ?_ _
      go_wp2_with fail
      go_meet
      refine ⟨nb, _, _, _, _, _, _, _, rfl, rfl, ((HN.out.set0 _).set1 _).set2 _, ?_, extA⟩
      exact NumV.set (NumV.set (NumV.set ⟨z1, zc, z2, zd, rfl, k1, k2⟩ hzn hnl) hzn hnl) hzn hnl
  case rest =>
    obtain ⟨nb, z0, z1, zn, zc, z2, zm, zd, rfl, rfl, N, HZ, E⟩ := hcut
    have ka := (numOf_len HEA.out).2
    have kb := (numOf_len HEB.out).2
    have hval : valQ (sumN (numOf a) (numOf b)) = fracQ a + fracQ b := (sumN_val ka kb).1.trans (by rw [numOf_val, numOf_val])
    have hden : (sumN (numOf a) (numOf b)).2.2 ≠ 0 := (sumN_val ka kb).2
    have hlen := sumN_len hxa hyb
    have HRR := Lib.hid (HRES.out.2.2 HEA.out HEB.out)
    generalize sumN (numOf a) (numOf b) = SN at *
    have HW := Lib.hid (written_any SN.1 SN.2.1 SN.2.2 _ _ HZ.out hden (HG.out.ext E) hlen.1 hlen.2)
    have HV := Lib.hid (show numQ SN.1 SN.2.1 SN.2.2 = fracQ a + fracQ b from hval)
    obtain ⟨x0, x1, x2, _, _, _⟩ := N.out
    clear X Y HNA HNB HRES HZ N hval hden hlen ka kb hxa hyb
    go_wp2_with (go_at_call 126; refine HW.out.mono ?_; rintro e w9 ⟨rfl, hE⟩)
    go_ret2
    exact ⟨by rw [HRR.out, HV.out]; rfl, E.trans hE⟩
end Go.Proofs.YtdejgaiocjfhjaaGreatDoor
namespace Go.Proofs.YtdejgaiocjfhjaaGreatDoor
open Go.RowKit
end Go.Proofs.YtdejgaiocjfhjaaGreatDoor
namespace Go.Proofs.YtdejgaiocjfhjaaGreatDoor
open Go.RowKit
end Go.Proofs.YtdejgaiocjfhjaaGreatDoor
namespace Go.Proofs.YtdejgaiocjfhjaaGreatDoor
open Go.RowKit
end Go.Proofs.YtdejgaiocjfhjaaGreatDoor
namespace Go.Proofs.YtdejgaiocjfhjaaGreatDoor
open Go.RowKit
open Go.Lib (decDigits itoa)
def IntP (z : Int) (n : Nat) (w : World) (e : Ending) (w' : World) : Prop := e = .returned (.tuple #[.int .i64 z, .int .i64 (n : Nat)]) ∧ Ext w w'
set_option maxHeartbeats 2000000 in
theorem add_any (a b : Txt) (w : World) (hG : Glob w) (ha : a.length ≤ 400) (hb : b.length ≤ 400) : Calls Tryz.prog 47 #[txt a, txt b] w (ResP (addS a b) w) := by
  have H := Lib.hid (computed0_any a b w hG ha hb)
  clear hG
  go_enter Tryz.func47, Tryz.ntmps47
  go_wp2_with (go_at_call 92; refine H.out.mono ?_; rintro e w1 ⟨rfl, hE⟩)
  go_ret2
  exact ⟨rfl, hE⟩
end Go.Proofs.YtdejgaiocjfhjaaGreatDoor
namespace Go.Proofs.YtdejgaiocjfhjaaGreatDoor
open Go.RowKit
open Go.Lib (decDigits itoa)
end Go.Proofs.YtdejgaiocjfhjaaGreatDoor
namespace Go.Proofs.YtdejgaiocjfhjaaGreatDoor
open Go.RowKit
open Go.Lib (decDigits itoa)
theorem made_right4 {q : Rat} (h : FitQ q) : madeT q = fracT q ∧ madeE q = 0 ∧ fracE (madeT q) = 0 ∧ fracQ (madeT q) = q := by
  obtain ⟨h1, h2⟩ := frac_of h
  unfold madeT madeE
  rw [if_pos h, if_pos h]
  exact ⟨rfl, rfl, h1, h2⟩
end Go.Proofs.YtdejgaiocjfhjaaGreatDoor
namespace Go.Proofs.YtdejgaiocjfhjaaGreatDoor
open Go.RowKit
open Go.Lib (decDigits itoa)
theorem made_is {a : Txt} {q : Rat} (h : fracE a = 0) (e : fracQ a = q) : resQ q = (a, 0) := by
  have hf := frac_fit h
  rw [e] at hf
  obtain ⟨k1, k2, _⟩ := made_right4 hf
  unfold resQ
  rw [k1, k2, ← e, frac_back h]
theorem op_is {a b c : Txt} {q : Rat} (ha : fracE a = 0) (hb : fracE b = 0) (h : fracE c = 0) (e : fracQ c = q) : ifOk (bothE a b) badR (resQ q) = (c, 0) := by
  unfold ifOk
  rw [if_pos (bothE_zero ha hb)]
  exact made_is h e
end Go.Proofs.YtdejgaiocjfhjaaGreatDoor
namespace Go.Proofs.YtdejgaiocjfhjaaGreatDoor
open Go.Lib (decDigits itoa)
structure Good (K : Nat) (t : Txt) (q : Rat) : Prop where
  ok : fracE t = 0
  val : fracQ t = q
  fit : FitB K q
theorem Good.short {a : Txt} (h : fracE a = 0) (hl : a.length ≤ 10) : Good 10 a (fracQ a) := ⟨h, rfl, short_fit h hl⟩
theorem Good.of {K : Nat} {q : Rat} (h : FitB K q) (hK : K ≤ 60) : resQ q = (fracT q, 0) ∧ Good K (fracT q) q := by
  obtain ⟨h1, h2⟩ := made_fit (h.fit hK)
  obtain ⟨h3, h4⟩ := frac_of (h.fit hK)
  exact ⟨by unfold resQ; rw [h1, h2], ⟨h3, h4, h⟩⟩
theorem Good.both {K L : Nat} {s t : Txt} {q r : Rat} (h : Good K s q) (k : Good L t r) : bothE s t = 0 := by
  unfold bothE; rw [if_pos h.ok]; exact k.ok
theorem Good.add {K L : Nat} {s t : Txt} {q r : Rat} (h : Good K s q) (k : Good L t r) (hK : K + L + 1 ≤ 60) : addS s t = (fracT (q + r), 0) ∧ Good (K + L + 1) (fracT (q + r)) (q + r) := by
  obtain ⟨h1, h2⟩ := Good.of (h.fit.add k.fit) hK
  refine ⟨?_, h2⟩
  unfold addS ifOk
  rw [if_pos (h.both k), h.val, k.val, h1]
theorem Good.sub {K L : Nat} {s t : Txt} {q r : Rat} (h : Good K s q) (k : Good L t r) (hK : K + L + 1 ≤ 60) : subS s t = (fracT (q - r), 0) ∧ Good (K + L + 1) (fracT (q - r)) (q - r) := by
  obtain ⟨h1, h2⟩ := Good.of (h.fit.sub k.fit) hK
  refine ⟨?_, h2⟩
  unfold subS ifOk
  rw [if_pos (h.both k), h.val, k.val, h1]
theorem Good.mul {K L : Nat} {s t : Txt} {q r : Rat} (h : Good K s q) (k : Good L t r) (hK : K + L ≤ 60) : mulS s t = (fracT (q * r), 0) ∧ Good (K + L) (fracT (q * r)) (q * r) := by
  obtain ⟨h1, h2⟩ := Good.of (h.fit.mul k.fit) hK
  refine ⟨?_, h2⟩
  unfold mulS ifOk
  rw [if_pos (h.both k), h.val, k.val, h1]
theorem int_good {n : Int} {K : Nat} (hK : 0 < K) (h60 : K ≤ 60) (h : n.natAbs < 10 ^ K) : Good K (itoa n) (n : Rat) := by
  rw [← fracT_int]
  exact (Good.of (fit_int hK h) h60).2
theorem zero_good : Good 1 [48] 0 := by
  have h := int_good (n := 0) (K := 1) (by omega) (by omega) (by decide)
  rwa [show itoa 0 = [48] from (Go.Lib.itoa_nonneg 0).trans (digits_small (by omega)), Rat.intCast_zero] at h
theorem Good.inj {K L : Nat} {s t : Txt} {q : Rat} (h : Good K s q) (k : Good L t q) : s = t := frac_inj h.ok k.ok (h.val.trans k.val.symm)
theorem Good.zero {K : Nat} {s : Txt} {q : Rat} (h : Good K s q) : s = [48] ↔ q = 0 := by
  constructor
  · rintro rfl; rw [← h.val]; exact zero_good.val
  · rintro rfl; exact h.inj zero_good
theorem Good.neg {K : Nat} {s : Txt} {q : Rat} (h : Good K s q) (hK : K ≤ 60) : negR s = (fracT (-q), 0) ∧ Good K (fracT (-q)) (-q) := by
  refine ⟨?_, (Good.of h.fit.neg hK).2⟩
  unfold negR ifOk
  rw [if_pos h.ok, h.val]
theorem Good.sign {K : Nat} {s : Txt} {q : Rat} (h : Good K s q) : signS s = (q.num.sign, 0) := by
  unfold signS ifOk
  rw [if_pos h.ok, h.val]
end Go.Proofs.YtdejgaiocjfhjaaGreatDoor
namespace Go.Proofs.YtdejgaiocjfhjaaGreatDoor
open Go.RowKit
open Go.Lib (decDigits itoa)
theorem Good.any {a : Txt} (h : fracE a = 0) : Good 60 a (fracQ a) := ⟨h, rfl, frac_fit h⟩
end Go.Proofs.YtdejgaiocjfhjaaGreatDoor
namespace Go.Proofs.YtdejgaiocjfhjaaGreatDoor
open Go.RowKit
open Go.Lib (decDigits itoa)
def LenR (k : Nat) (x : Num) : Prop := (toB 1000000 x.2.1).length ≤ k ∧ (toB 1000000 x.2.2).length ≤ k
theorem LenR.mono {k l : Nat} {x : Num} (h : LenR k x) (hk : k ≤ l) : LenR l x := ⟨Nat.le_trans h.1 hk, Nat.le_trans h.2 hk⟩
end Go.Proofs.YtdejgaiocjfhjaaGreatDoor
namespace Go.Proofs.YtdejgaiocjfhjaaGreatDoor
open Go.RowKit
open Go.Lib (decDigits itoa)
end Go.Proofs.YtdejgaiocjfhjaaGreatDoor
namespace Go.Proofs.YtdejgaiocjfhjaaGreatDoor
open Go.Lib (decDigits itoa)
abbrev Enc := Txt × Txt
abbrev EncR := Enc × Nat
def ordQ (a b : Txt) : Int := (fracQ a - fracQ b).num.sign
def encE (a : Enc) : Nat := if bothE a.1 a.2 = 0 then (if 0 < ordQ a.1 a.2 then 9 else 0) else bothE a.1 a.2
def bothEE (a b : Enc) : Nat := if encE a = 0 then encE b else encE a
def badEnc (e : Nat) : EncR := (([], []), e)
def endsR (r s : Res) : EncR := if r.2 ≠ 0 then badEnc r.2 else if s.2 ≠ 0 then badEnc s.2 else ((r.1, s.1), 0)
def inE (a : Enc) (x : Txt) : Bool := decide (ordQ a.1 x ≤ 0) && decide (ordQ x a.2 ≤ 0)
def containsE (a : Enc) (x : Txt) : Bool × Nat := if encE a ≠ 0 then (false, encE a) else if fracE x ≠ 0 then (false, fracE x) else (inE a x, 0)
def sureE (a b : Enc) : Int := if ordQ a.2 b.1 < 0 then -1 else if 0 < ordQ a.1 b.2 then 1 else 0
def compareE (a b : Enc) : Int × Nat := if bothEE a b ≠ 0 then (0, bothEE a b) else (sureE a b, 0)
def widthE (a : Enc) : Res := if encE a ≠ 0 then badR (encE a) else subS a.2 a.1
def withinE (a b : Enc) : Bool × Nat := if bothEE a b ≠ 0 then (false, bothEE a b) else (decide (ordQ b.1 a.1 ≤ 0) && decide (ordQ a.2 b.2 ≤ 0), 0)
def lowHull (a b : Enc) : Txt := if ordQ b.1 a.1 < 0 then b.1 else a.1
def highHull (a b : Enc) : Txt := if 0 < ordQ b.2 a.2 then b.2 else a.2
def hullE (a b : Enc) : EncR := if bothEE a b ≠ 0 then badEnc (bothEE a b) else ((lowHull a b, highHull a b), 0)
def lowMeet (a b : Enc) : Txt := if 0 < ordQ b.1 a.1 then b.1 else a.1
def highMeet (a b : Enc) : Txt := if ordQ b.2 a.2 < 0 then b.2 else a.2
def commonE (a b : Enc) : Enc × Bool := if 0 < ordQ (lowMeet a b) (highMeet a b) then (([], []), false) else ((lowMeet a b, highMeet a b), true)
def meetE (a b : Enc) : Enc × Bool × Nat := if bothEE a b ≠ 0 then (([], []), false, bothEE a b) else ((commonE a b).1, (commonE a b).2, 0)
def addE (a b : Enc) : EncR := if bothEE a b ≠ 0 then badEnc (bothEE a b) else endsR (addS a.1 b.1) (addS a.2 b.2)
def subE (a b : Enc) : EncR := if bothEE a b ≠ 0 then badEnc (bothEE a b) else endsR (subS a.1 b.2) (subS a.2 b.1)
def LenE (a : Enc) : Prop := a.1.length ≤ 400 ∧ a.2.length ≤ 400
theorem enc_right {a : Enc} (h : encE a = 0) : fracE a.1 = 0 ∧ fracE a.2 = 0 ∧ ordQ a.1 a.2 ≤ 0 := by
  unfold encE at h
  by_cases hb : bothE a.1 a.2 = 0
  · rw [if_pos hb] at h
    have h2 : fracE a.1 = 0 ∧ fracE a.2 = 0 := by
      unfold bothE at hb
      by_cases k : fracE a.1 = 0
      · rw [if_pos k] at hb; exact ⟨k, hb⟩
      · rw [if_neg k] at hb; exact absurd hb k
    refine ⟨h2.1, h2.2, ?_⟩
    by_cases h3 : 0 < ordQ a.1 a.2
    · rw [if_pos h3] at h; cases h
    · omega
  · rw [if_neg hb] at h
    exact absurd h hb
end Go.Proofs.YtdejgaiocjfhjaaGreatDoor
namespace Go.Proofs.YtdejgaiocjfhjaaGreatDoor
open Go.Lib (decDigits itoa)
def lo2 (x y : Rat) : Rat := if y < x then y else x
def hi2 (x y : Rat) : Rat := if x < y then y else x
def lo4 (a b c d : Rat) : Rat := lo2 (lo2 (lo2 a b) c) d
def hi4 (a b c d : Rat) : Rat := hi2 (hi2 (hi2 a b) c) d
theorem lo4_le (a b c d : Rat) : lo4 a b c d ≤ a ∧ lo4 a b c d ≤ b ∧ lo4 a b c d ≤ c ∧ lo4 a b c d ≤ d ∧ (lo4 a b c d = a ∨ lo4 a b c d = b ∨ lo4 a b c d = c ∨ lo4 a b c d = d) := by
  unfold lo4 lo2; grind
theorem le_hi4 (a b c d : Rat) : a ≤ hi4 a b c d ∧ b ≤ hi4 a b c d ∧ c ≤ hi4 a b c d ∧ d ≤ hi4 a b c d ∧ (hi4 a b c d = a ∨ hi4 a b c d = b ∨ hi4 a b c d = c ∨ hi4 a b c d = d) := by
  unfold hi4 hi2; grind
def prodLo (a b : Enc) : Rat := lo4 (fracQ a.1 * fracQ b.1) (fracQ a.1 * fracQ b.2) (fracQ a.2 * fracQ b.1) (fracQ a.2 * fracQ b.2)
def prodHi (a b : Enc) : Rat := hi4 (fracQ a.1 * fracQ b.1) (fracQ a.1 * fracQ b.2) (fracQ a.2 * fracQ b.1) (fracQ a.2 * fracQ b.2)
def has0 (b : Enc) : Bool := decide (fracQ b.1 ≤ 0) && decide (0 ≤ fracQ b.2)
def mulE (a b : Enc) : EncR := if bothEE a b ≠ 0 then badEnc (bothEE a b) else endsR (resQ (prodLo a b)) (resQ (prodHi a b))
def sqLo (a : Enc) : Rat := if has0 a then 0 else lo2 (fracQ a.1 * fracQ a.1) (fracQ a.2 * fracQ a.2)
def sqHi (a : Enc) : Rat := hi2 (fracQ a.1 * fracQ a.1) (fracQ a.2 * fracQ a.2)
def squareE (a : Enc) : EncR := if encE a ≠ 0 then badEnc (encE a) else endsR (resQ (sqLo a)) (resQ (sqHi a))
theorem enc_le {a : Enc} (h : encE a = 0) : fracQ a.1 ≤ fracQ a.2 := sgn_le.1 (enc_right h).2.2
end Go.Proofs.YtdejgaiocjfhjaaGreatDoor
namespace Go.Proofs.YtdejgaiocjfhjaaGreatDoor
open Go.Lib (decDigits itoa)
structure RightP (p : Txt × Txt) : Prop where
  x : fracE p.1 = 0
  y : fracE p.2 = 0
theorem len_right {a : Txt} (h : fracE a = 0) : a.length ≤ 400 := by
  obtain ⟨h1, h2, h3, h4, h5, _, _⟩ := frac_parts h
  have hb : (bareS (topS a)).length ≤ 60 := by
    rw [← canon_back h1.1]
    rw [intV_abs] at h2
    exact (digits_len_le _ 60 (by omega)).2 h2
  have hd : (lowS a).length ≤ 60 := by
    rw [← canon_back h3]
    exact (digits_len_le _ 60 (by omega)).2 h5
  have ht : (topS a).length ≤ (bareS (topS a)).length + 1 := by
    unfold bareS
    split
    · rw [List.length_tail]; omega
    · omega
  by_cases hs : 47 ∈ a
  · have e := congrArg List.length (split_some hs)
    rw [List.length_append, List.length_cons] at e
    omega
  · have e := (split_none hs).1
    rw [e] at ht hb
    omega
theorem ord_lt {a b : Txt} : ordQ a b < 0 ↔ fracQ a < fracQ b := sgn_lt
theorem ord_gt {a b : Txt} : 0 < ordQ a b ↔ fracQ b < fracQ a := by
  unfold ordQ
  rw [← sgn_lt, sgn_swap]; omega
theorem ord_le' {a b : Txt} : ordQ a b ≤ 0 ↔ fracQ a ≤ fracQ b := sgn_le
theorem prod_le (a b : Enc) : prodLo a b ≤ prodHi a b := by
  unfold prodLo prodHi
  have h1 := lo4_le (fracQ a.1 * fracQ b.1) (fracQ a.1 * fracQ b.2) (fracQ a.2 * fracQ b.1) (fracQ a.2 * fracQ b.2)
  have h2 := le_hi4 (fracQ a.1 * fracQ b.1) (fracQ a.1 * fracQ b.2) (fracQ a.2 * fracQ b.1) (fracQ a.2 * fracQ b.2)
  exact Rat.le_trans h1.1 h2.1
end Go.Proofs.YtdejgaiocjfhjaaGreatDoor
namespace Go.Proofs.YtdejgaiocjfhjaaGreatDoor
open Go.Lib (decDigits itoa)
structure GoodE (K : Nat) (a : Enc) (p q : Rat) : Prop where
  lo : Good K a.1 p
  hi : Good K a.2 q
  le : p ≤ q
def ShortR (a : Enc) : Prop := encE a = 0 ∧ a.1.length ≤ 10 ∧ a.2.length ≤ 10
theorem ShortR.good {a : Enc} (h : ShortR a) : GoodE 10 a (fracQ a.1) (fracQ a.2) :=
  ⟨Good.short (enc_right h.1).1 h.2.1, Good.short (enc_right h.1).2.1 h.2.2, enc_le h.1⟩
theorem GoodE.ok {K : Nat} {a : Enc} {p q : Rat} (h : GoodE K a p q) : encE a = 0 := by
  unfold encE bothE
  rw [if_pos h.lo.ok, if_pos h.hi.ok, if_neg]
  rw [ord_gt, h.lo.val, h.hi.val]
  have := h.le
  grind
theorem GoodE.both {K L : Nat} {a b : Enc} {p q r s : Rat} (h : GoodE K a p q) (k : GoodE L b r s) : bothEE a b = 0 := by
  unfold bothEE; rw [if_pos h.ok]; exact k.ok
def encT (p q : Rat) : Enc := (fracT p, fracT q)
theorem GoodE.of {K : Nat} {p q : Rat} (h : FitB K p) (k : FitB K q) (hK : K ≤ 60) (hl : p ≤ q) : endsR (resQ p) (resQ q) = (encT p q, 0) ∧ GoodE K (encT p q) p q := by
  obtain ⟨h1, h2⟩ := Good.of h hK
  obtain ⟨k1, k2⟩ := Good.of k hK
  refine ⟨?_, ⟨h2, k2, hl⟩⟩
  rw [h1, k1]; rfl
theorem add_le {p q r s : Rat} (h : p ≤ q) (k : r ≤ s) : p + r ≤ q + s := by grind
theorem sub_le {p q r s : Rat} (h : p ≤ q) (k : r ≤ s) : p - s ≤ q - r := by grind
theorem GoodE.add {K L : Nat} {a b : Enc} {p q r s : Rat} (h : GoodE K a p q) (k : GoodE L b r s) (hK : K + L + 1 ≤ 60) :
    addE a b = (encT (p + r) (q + s), 0) ∧ GoodE (K + L + 1) (encT (p + r) (q + s)) (p + r) (q + s) := by
  obtain ⟨h1, h2⟩ := h.lo.add k.lo hK
  obtain ⟨k1, k2⟩ := h.hi.add k.hi hK
  refine ⟨?_, ⟨h2, k2, add_le h.le k.le⟩⟩
  unfold addE
  rw [if_neg (not_not_intro (h.both k)), h1, k1]; rfl
theorem GoodE.sub {K L : Nat} {a b : Enc} {p q r s : Rat} (h : GoodE K a p q) (k : GoodE L b r s) (hK : K + L + 1 ≤ 60) :
    subE a b = (encT (p - s) (q - r), 0) ∧ GoodE (K + L + 1) (encT (p - s) (q - r)) (p - s) (q - r) := by
  obtain ⟨h1, h2⟩ := h.lo.sub k.hi hK
  obtain ⟨k1, k2⟩ := h.hi.sub k.lo hK
  refine ⟨?_, ⟨h2, k2, sub_le h.le k.le⟩⟩
  unfold subE
  rw [if_neg (not_not_intro (h.both k)), h1, k1]; rfl
theorem fit_lo4 {K : Nat} {a b c d : Rat} (ha : FitB K a) (hb : FitB K b) (hc : FitB K c) (hd : FitB K d) : FitB K (lo4 a b c d) := by
  rcases (lo4_le a b c d).2.2.2.2 with e | e | e | e <;> rw [e] <;> assumption
theorem fit_hi4 {K : Nat} {a b c d : Rat} (ha : FitB K a) (hb : FitB K b) (hc : FitB K c) (hd : FitB K d) : FitB K (hi4 a b c d) := by
  rcases (le_hi4 a b c d).2.2.2.2 with e | e | e | e <;> rw [e] <;> assumption
theorem GoodE.mul {K L : Nat} {a b : Enc} {p q r s : Rat} (h : GoodE K a p q) (k : GoodE L b r s) (hK : K + L ≤ 60) :
    mulE a b = (encT (prodLo a b) (prodHi a b), 0) ∧ GoodE (K + L) (encT (prodLo a b) (prodHi a b)) (prodLo a b) (prodHi a b) := by
  have e1 := h.lo.val
  have e2 := h.hi.val
  have e3 := k.lo.val
  have e4 := k.hi.val
  have f1 : FitB (K + L) (prodLo a b) := by
    unfold prodLo; rw [e1, e2, e3, e4]
    exact fit_lo4 (h.lo.fit.mul k.lo.fit) (h.lo.fit.mul k.hi.fit) (h.hi.fit.mul k.lo.fit) (h.hi.fit.mul k.hi.fit)
  have f2 : FitB (K + L) (prodHi a b) := by
    unfold prodHi; rw [e1, e2, e3, e4]
    exact fit_hi4 (h.lo.fit.mul k.lo.fit) (h.lo.fit.mul k.hi.fit) (h.hi.fit.mul k.lo.fit) (h.hi.fit.mul k.hi.fit)
  obtain ⟨h1, h2⟩ := GoodE.of f1 f2 hK (prod_le a b)
  refine ⟨?_, h2⟩
  unfold mulE
  rw [if_neg (not_not_intro (h.both k)), h1]
theorem GoodE.contains {K L : Nat} {a : Enc} {x : Txt} {p q r : Rat} (h : GoodE K a p q) (k : Good L x r) (h1 : p ≤ r) (h2 : r ≤ q) : containsE a x = (true, 0) := by
  unfold containsE inE
  rw [if_neg (not_not_intro h.ok), if_neg (not_not_intro k.ok), decide_eq_true, decide_eq_true]
  · rfl
  · rw [ord_le', h.hi.val, k.val]; exact h2
  · rw [ord_le', h.lo.val, k.val]; exact h1
theorem GoodE.mono {K L : Nat} {a : Enc} {p q : Rat} (h : GoodE K a p q) (hk : K ≤ L) : GoodE L a p q := ⟨⟨h.lo.ok, h.lo.val, h.lo.fit.mono hk⟩, ⟨h.hi.ok, h.hi.val, h.hi.fit.mono hk⟩, h.le⟩
theorem GoodE.hull {K : Nat} {a b : Enc} {p q r s : Rat} (h : GoodE K a p q) (k : GoodE K b r s) :
    hullE a b = ((lowHull a b, highHull a b), 0) ∧ GoodE K (lowHull a b, highHull a b) (lo2 p r) (hi2 q s) := by
  have e1 : ordQ b.1 a.1 < 0 ↔ r < p := by rw [ord_lt, h.lo.val, k.lo.val]
  have e2 : 0 < ordQ b.2 a.2 ↔ q < s := by rw [ord_gt, h.hi.val, k.hi.val]
  have hl := h.le
  have kl := k.le
  refine ⟨by unfold hullE; rw [if_neg (not_not_intro (h.both k))], ?_, ?_, ?_⟩
  · unfold lowHull lo2; dsimp only; simp only [e1]
    split
    · exact k.lo
    · exact h.lo
  · unfold highHull hi2; dsimp only; simp only [e2]
    split
    · exact k.hi
    · exact h.hi
  · unfold lo2 hi2; grind
end Go.Proofs.YtdejgaiocjfhjaaGreatDoor
namespace Go.Proofs.YtdejgaiocjfhjaaGreatDoor
open Go.Lib (decDigits itoa)
end Go.Proofs.YtdejgaiocjfhjaaGreatDoor
namespace Go.Proofs.YtdejgaiocjfhjaaGreatDoor
open Go.Lib (decDigits itoa)
theorem Good.len {K : Nat} {t : Txt} {q : Rat} (h : Good K t q) : t.length ≤ 400 := len_right h.ok
theorem GoodE.len {K : Nat} {a : Enc} {p q : Rat} (h : GoodE K a p q) : LenE a := ⟨h.lo.len, h.hi.len⟩
structure InR (r : EncR) (o : Res) : Prop where
  e : r.2 = 0
  f : o.2 = 0
  c : containsE r.1 o.1 = (true, 0)
  l : LenE r.1
  m : o.1.length ≤ 400
structure NarR (r s : EncR) : Prop where
  e : r.2 = 0
  f : s.2 = 0
  c : withinE r.1 s.1 = (true, 0)
  l : LenE r.1
  m : LenE s.1
structure Narrow (a b n : Enc) : Prop where
  len : LenE n
  inn : withinE n a = (true, 0)
  ab : (compareE a b).2 = 0
  nb : (compareE n b).2 = 0
  same : (compareE a b).1 ≠ 0 → (compareE n b).1 = (compareE a b).1
  add : NarR (addE n b) (addE a b)
  sub : NarR (subE n b) (subE a b)
  mul : NarR (mulE n b) (mulE a b)
  hull : NarR (hullE n b) (hullE a b)
structure MeetsR (a b : Enc) : Prop where
  e : (meetE a b).2.2 = 0
  f : (hullE a b).2 = 0
  g : (compareE a b).2 = 0
  i : (compareE b a).2 = 0
  ok : (meetE a b).2.1 = decide ((compareE a b).1 = 0)
  n : (compareE b a).1 = -(compareE a b).1
  ha : withinE a (hullE a b).1 = (true, 0)
  hb : withinE b (hullE a b).1 = (true, 0)
  ca : (meetE a b).2.1 = true → withinE (meetE a b).1 a = (true, 0)
  cb : (meetE a b).2.1 = true → withinE (meetE a b).1 b = (true, 0)
  lh : LenE (hullE a b).1
  lm : LenE (meetE a b).1
structure SelfR (a b : Enc) : Prop where
  e : (squareE a).2 = 0
  f : (mulE a a).2 = 0
  w : withinE (squareE a).1 (mulE a a).1 = (true, 0)
  h : (signS (squareE a).1.1).2 = 0
  n : 0 ≤ (signS (squareE a).1.1).1
  i : (addE a b).2 = 0
  j : (widthE a).2 = 0
  k : (widthE b).2 = 0
  l : (widthE (addE a b).1).2 = 0
  m : (addS (widthE a).1 (widthE b).1).2 = 0
  z : (addS (widthE a).1 (widthE b).1).1 = (widthE (addE a b).1).1
  l1 : LenE (squareE a).1
  l2 : LenE (mulE a a).1
  l3 : LenE (addE a b).1
  l4 : (widthE a).1.length ≤ 400
  l5 : (widthE b).1.length ≤ 400
end Go.Proofs.YtdejgaiocjfhjaaGreatDoor
namespace Go.Proofs.YtdejgaiocjfhjaaGreatDoor
open Go.RowKit
def beforeE (p q : Txt × Txt) (divide : Bool) : Bool :=
  if divide then decide ((fracQ p.1 * fracQ q.2 - fracQ q.1 * fracQ p.2).num.sign < 0) else decide ((fracQ p.1 * fracQ p.2 - fracQ q.1 * fracQ q.2).num.sign < 0)
end Go.Proofs.YtdejgaiocjfhjaaGreatDoor
namespace Go.Proofs.YtdejgaiocjfhjaaGreatDoor
open Go.RowKit
open Go.Lib (decDigits itoa)
def CellsT (w : World) (a : Option Addr) (l : List Txt) : Prop :=
  ∀ i, i < l.length → ∃ b off, a = some ⟨b, off, none⟩ ∧ w.cell? ⟨b, off + i, none⟩ = some (txt (l.getD i []))
theorem CellsT.ext {w w' : World} {a : Option Addr} {l : List Txt} (h : CellsT w a l) (he : Ext w w') : CellsT w' a l := fun i hi => by
  obtain ⟨b, off, h1, h2⟩ := h i hi
  exact ⟨b, off, h1, he.cell h2⟩
end Go.Proofs.YtdejgaiocjfhjaaGreatDoor
namespace Go.Proofs.YtdejgaiocjfhjaaGreatDoor
open Go.RowKit
def txtsV (l : List Txt) : List Value := l.map txt
theorem txtsV_get {l : List Txt} {i : Nat} (h : i < l.length) : (txtsV l)[i]? = some (txt (l.getD i [])) := by
  simp [txtsV, List.getD_eq_getElem?_getD, h]
def OwnT (w : World) (v : Value) (l : List Txt) : Prop := w.ownsRow 0 22 1 v l.length (txtsV l)
theorem OwnT.ext {A B : World} {v : Value} {l : List Txt} (h : OwnT A v l) (he : Ext A B) : OwnT B v l := rowExt h he
theorem OwnT.succ {w : World} {v : Value} {l : List Txt} {x : Txt} (h : w.ownsRow 0 22 1 v (l.length + 1) (txtsV l ++ [txt x])) : OwnT w v (l ++ [x]) := by
  unfold OwnT txtsV
  rw [List.length_append, List.length_singleton, List.map_append]
  exact h
theorem OwnT.reads {A : World} {v : Value} {l : List Txt} (h : OwnT A v l) : ∃ a cap, v = .slice a l.length cap ∧ CellsT A a l := by
  obtain ⟨a, cap, hv, _, hr⟩ := rowReads h
  refine ⟨a, cap, hv, fun i hi => ?_⟩
  obtain ⟨b, hb, _, h1, _⟩ := hr i _ (txtsV_get hi)
  exact ⟨b, 0, hb, by rw [Nat.zero_add]; exact h1⟩
structure FourO (g : Nat) (W : World) (l : List Txt) (E : Nat) (v : Value) : Prop where
  c0 : W.cell? ⟨g, 0, none⟩ = some v
  c1 : W.cell? ⟨g, 1, none⟩ = some (.int .i64 (E : Nat))
  f0 : W.frozen? ⟨g, 0, none⟩ = false
  f1 : W.frozen? ⟨g, 1, none⟩ = false
  own : OwnT W v l
  blk : ∀ b, v.ownBlock = some b → g < b
def Four (g : Nat) (W : World) (l : List Txt) (E : Nat) : Prop := ∃ v, FourO g W l E v
theorem FourO.ext {g : Nat} {A B : World} {l : List Txt} {E : Nat} {v : Value} (x : FourO g A l E v) (e : Ext A B) : FourO g B l E v := by
  have hz : g < A.heap.size := cell_lt x.c0
  exact ⟨e.cell x.c0, e.cell x.c1, (Below.frozen (p := ⟨g, 0, none⟩) e hz).trans x.f0, (Below.frozen (p := ⟨g, 1, none⟩) e hz).trans x.f1, x.own.ext e, x.blk⟩
theorem Four.ext {g : Nat} {A B : World} {l : List Txt} {E : Nat} (x : Four g A l E) (e : Ext A B) : Four g B l E := by
  obtain ⟨v, h⟩ := x
  exact ⟨v, h.ext e⟩
theorem setCell_block {w : World} {b o c : Nat} {v : Value} (h : c ≠ b) : (w.setCell ⟨b, o, none⟩ v).heap[c]? = w.heap[c]? := by
  simp only [World.setCell, Array.getElem?_modify]
  rw [if_neg (fun e => h e.symm)]
theorem OwnT.set {g o : Nat} {w : World} {v u : Value} {l : List Txt} (h : OwnT w v l) (hb : ∀ b, v.ownBlock = some b → g < b) : OwnT (w.setCell ⟨g, o, none⟩ u) v l :=
  rowSame h fun b h1 => setCell_block (by have := hb b h1; omega)
theorem FourO.app {g : Nat} {w w5 : World} {l : List Txt} {E : Nat} {v v' : Value} {a : Txt} (x : FourO g w l E v) (hown : w5.ownsRow 0 22 1 v' (l.length + 1) (txtsV l ++ [txt a])) (hend : AppEnd w w5 v v') :
    FourO g (w5.setCell ⟨g, 0, none⟩ v') (l ++ [a]) E v' ∧ Below g w (w5.setCell ⟨g, 0, none⟩ v') := by
  have hz : g < w.heap.size := cell_lt x.c0
  have B : Below (g + 1) w w5 := hend.below (by omega) (fun b hb => x.blk b hb)
  have hb : ∀ b, v'.ownBlock = some b → g < b := fun b h => hend.ge (n := g + 1) (by omega) (fun b hb => x.blk b hb) b h
  have c0 := cellB B (p := ⟨g, 0, none⟩) (by show g < g + 1; omega) x.c0
  have c1 := cellB B (p := ⟨g, 1, none⟩) (by show g < g + 1; omega) x.c1
  have f0 := (Below.frozen (p := ⟨g, 0, none⟩) B (by show g < g + 1; omega)).trans x.f0
  have f1 := (Below.frozen (p := ⟨g, 1, none⟩) B (by show g < g + 1; omega)).trans x.f1
  refine ⟨⟨World.cell?_setCell_same _ _ _ c0, by rw [World.cell?_setCell_other _ _ _ _ (fun h => by simp only [Addr.mk.injEq] at h; omega)]; exact c1, by rw [World.frozen?_setCell]; exact f0, by rw [World.frozen?_setCell]; exact f1, (OwnT.succ hown).set hb, hb⟩, ?_⟩
  exact Below.setCell (p := ⟨g, 0, none⟩) (B.mono (by omega)) (Nat.le_refl g) v'
end Go.Proofs.YtdejgaiocjfhjaaGreatDoor
